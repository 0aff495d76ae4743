/-
  Arguments, opened: numbers, truths, bytes.
-/
import Derived.Test.YtaljodmhalodhaaDoorLbc
import Derived.LaidSub
import Derived.Lib.LaidTab
import Derived.MakeChecks
import Derived.Test.YtaljodmhalodhaaDoorCards
import Derived.Test.YtaljodmhalodhaaDoorTie
import Derived.SevenTiedAt
namespace Go.Proofs.YtaljodmhalodhaaDoor
open Go.RowKit Go.ChangeShapes Go.WideShapes
theorem u32_range {n : Int} (h : (Lit.int .u32 n).wf = true) : ∃ k : Nat, n = (k : Nat) ∧ k < 4294967296 := by
  simp [Lit.wf, IntKind.min, IntKind.max, IntKind.signed, IntKind.bits] at h
  exact ⟨n.toNat, by omega, by omega⟩
theorem u8_range {n : Int} (h : (Lit.int .u8 n).wf = true) : ∃ k : UInt8, n = (k.toNat : Nat) := by
  simp [Lit.wf, IntKind.min, IntKind.max, IntKind.signed, IntKind.bits] at h
  refine ⟨UInt8.ofNat n.toNat, ?_⟩
  rw [UInt8.toNat_ofNat']
  omega
theorem i64_range {n : Int} (h : (Lit.int .i64 n).wf = true) : -9223372036854775808 ≤ n ∧ n ≤ 9223372036854775807 := by
  simp [Lit.wf, IntKind.min, IntKind.max, IntKind.signed, IntKind.bits] at h
  omega
theorem map_flat {M : Type} (f : M → List Value) (l : List M) : (l.map f).flatten = l.flatMap f := by
  induction l with
  | nil => rfl
  | cons x r ih => rw [List.map_cons, List.flatten_cons, List.flatMap_cons, ih]
theorem flat_one {M : Type} (f : M → Value) (l : List M) : (l.map fun x => [f x]).flatten = l.map f := by
  induction l with
  | nil => rfl
  | cons x r ih => rw [List.map_cons, List.flatten_cons, ih]; rfl
theorem list1 {α : Type} {x : List α} (h : x.length = 1) : ∃ a, x = [a] := by
  match x, h with
  | [a], _ => exact ⟨a, rfl⟩
theorem list4 {α : Type} {x : List α} (h : x.length = 4) : ∃ a b c d, x = [a, b, c, d] := by
  match x, h with
  | [a, b, c, d], _ => exact ⟨a, b, c, d, rfl⟩
theorem array4 {α : Type} {x : Array α} (h : x.toList.length = 4) : ∃ a b c d, x = #[a, b, c, d] := by
  obtain ⟨l⟩ := x
  obtain ⟨a, b, c, d, e⟩ := list4 (show l.length = 4 from h)
  exact ⟨a, b, c, d, by rw [e]⟩
section
variable {H : Type} {enc : TypeId × Value → H} {w : World} {R : Nat}
theorem open_bytesZ {c1 : Value} (h : FitsZ R enc Tryd.prog w 22 [c1]) : ∃ (A : Option Addr) (c : Nat) (l : List UInt8), c1 = .slice A l.length c ∧ l.length ≤ c ∧ c ≤ maxLen ∧ l.length ≤ R ∧ Reads w w.heap.size 1 A l.length (u8s l) := by
  have hk : Tryd.prog.cellsOf 5 = 1 := by kernel_rfl
  obtain ⟨A, n, c, L, hcs, hn, hc, hR, hl, hL, hr⟩ := fitsZ_slice h Tryd.underlying22 (by rw [hk]; omega) (Nat.le_of_ble_eq_true (by kernel_rfl))
  rw [hk] at hr
  obtain ⟨l, rfl, _⟩ := choose_list (f := fun b : UInt8 => [.int .u8 ((b.toNat : Nat) : Int)]) (Q := fun _ => True) fun x hx => by
    obtain ⟨hx1, hx2⟩ := hL x hx
    rw [hk] at hx1
    obtain ⟨a, rfl⟩ := list1 hx1
    obtain ⟨u, e0, hu⟩ := fits_int hx2.fits Tryd.underlying5
    obtain ⟨k, rfl⟩ := u8_range hu
    exact ⟨k, e0, trivial⟩
  rw [List.length_map] at hl
  rw [flat_one (fun b : UInt8 => .int .u8 ((b.toNat : Nat) : Int))] at hr
  subst hl
  simp only [List.cons.injEq, and_true] at hcs
  exact ⟨A, c, l, hcs, hn, hc, hR, hr⟩
theorem fitsZ_part {t : TypeId} {cs : List Value} {fs : Array Field} (h : FitsZ R enc Tryd.prog w t cs) (ht : Tryd.prog.underlying t = some (.struct fs)) : cs.length = Tryd.prog.cellsOf t ∧ ∀ (j : Nat) (f : Field), fs[j]? = some f → FitsZ R enc Tryd.prog w f.type ((cs.drop f.offset).take (Tryd.prog.cellsOf f.type)) := by
  obtain ⟨base, spare, held, fuel, d, ps, h, hz⟩ := h
  obtain ⟨ys, n, _, hx, hl, hyl, hat⟩ := DataW.trod_struct ht h
  refine ⟨hl, fun j f hf => ?_⟩
  have h1 := hat j f hf
  have hj := (Array.getElem?_eq_some_iff.1 hf).1
  have hy : ys[j]? = some (ys[j]'(by omega)) := List.getElem?_eq_getElem (by omega)
  rw [hy] at h1
  refine ⟨base, spare, held, n, _, _, h1, fun k hk => hz k ?_⟩
  rw [(Prod.mk.inj hx).1]
  unfold DataW.weights
  rw [ht]
  refine DataW.weights_mem_each (j := j) (t := f.type) (d := (ys[j]'(by omega)).1) ?_ ?_ k hk
  · rw [List.getElem?_map, Array.getElem?_toList, hf]; rfl
  · rw [List.getElem?_map, hy]; rfl
end
theorem tab_met {l : List (String × DataW Unit)} {W : World} (h : laidMetH Tryd.prog l W) (hl : l.filter (fun x => x.1 == "internal/strconv.uint64pow10") = [("internal/strconv.uint64pow10", Lib.tabData .u64 Lib.pow10Tab)]) :
    Lib.TabIs Tryd.prog W "internal/strconv.uint64pow10" .u64 Lib.pow10Tab := by
  have h1 := laidMetH.filter (fun x => x.1 == "internal/strconv.uint64pow10") h
  rw [hl, MakeChecks.laidMetH_plain _ _ _ (by kernel_rfl)] at h1
  exact Lib.tabIs_of_head (g := 3) (t := 115) (e := 56) (n := 20) (by kernel_rfl) (by kernel_rfl) Tryd.underlying115 Tryd.underlying56 (by kernel_rfl) (by kernel_rfl) h1
section
variable {H : Type} {enc : TypeId × Value → H} {W : World} {base0 b0 : Nat} {spare : Nat → Bool} {held : Bool} {r : Reach} {R : Nat}
set_option maxRecDepth 100000 in
theorem i64_arg {v : Value} {d : DataW H} {ps : List MemPlace} (hv : Value.okWide Tryd.prog W r b0 3 v) (h : DataW.Trod enc Tryd.prog W base0 spare held 3 v d ps) : ∃ k : Int, v = .int .i64 k ∧ -9223372036854775808 ≤ k ∧ k ≤ 9223372036854775807 := by
  obtain ⟨x0, rfl, _, _, h0⟩ := open_int Tryd.underlying3 hv h
  exact ⟨x0, rfl, i64_range h0⟩
set_option maxRecDepth 100000 in
theorem bytes_arg {v : Value} {d : DataW H} {ps : List MemPlace} (hv : Value.okWide Tryd.prog W r b0 22 v) (h : DataW.Trod enc Tryd.prog W base0 spare held 22 v d ps) (hz : ∀ k ∈ d.weights Tryd.prog 22, k ≤ R) :
    ∃ (A : Option Addr) (c : Nat) (l : List UInt8), v = .slice A l.length c ∧ l.length ≤ c ∧ c ≤ maxLen ∧ l.length ≤ R ∧ Reads W W.heap.size 1 A l.length (u8s l) := by
  obtain ⟨A, n, c, rfl⟩ := okWide_slice Tryd.underlying22 hv
  obtain ⟨A', c', l, e, b⟩ := open_bytesZ (fitsZ_plain h rfl hz)
  exact ⟨A', c', l, e, b⟩
set_option maxRecDepth 100000 in
theorem u32_arg {v : Value} {d : DataW H} {ps : List MemPlace} (hv : Value.okWide Tryd.prog W r b0 116 v) (h : DataW.Trod enc Tryd.prog W base0 spare held 116 v d ps) : ∃ k : Nat, v = .int .u32 (k : Nat) ∧ k < 4294967296 := by
  obtain ⟨x0, rfl, _, _, h0⟩ := open_int Tryd.underlying116 hv h
  obtain ⟨k, rfl, hk⟩ := u32_range h0
  exact ⟨k, rfl, hk⟩
set_option maxRecDepth 100000 in
theorem bool_arg {v : Value} {d : DataW H} {ps : List MemPlace} (hv : Value.okWide Tryd.prog W r b0 4 v) (h : DataW.Trod enc Tryd.prog W base0 spare held 4 v d ps) : ∃ b : Bool, v = .bool b := by
  obtain ⟨b, rfl, _⟩ := open_bool Tryd.underlying4 hv h
  exact ⟨b, rfl⟩
end
end Go.Proofs.YtaljodmhalodhaaDoor
/-
  Arguments that are tokens, opened.
-/
namespace Go.Proofs.YtaljodmhalodhaaDoor
open Go.RowKit Go.ChangeShapes Go.WideShapes
theorem list2 {α : Type} {x : List α} (h : x.length = 2) : ∃ a b, x = [a, b] := by
  match x, h with
  | [a, b], _ => exact ⟨a, b, rfl⟩
section
variable {H : Type} {enc : TypeId × Value → H} {w W : World} {R base0 b0 : Nat} {spare : Nat → Bool} {held : Bool} {r : Reach}
theorem open_tokZ {x : List Value} (h : FitsZ R enc Tryd.prog w 33 x) : ∃ m : TokI, x = tokIC m ∧ m.t.length ≤ R := by
  obtain ⟨hx3, hx4⟩ := fitsZ_fields h Tryd.underlying33 (by kernel_rfl) (by kernel_rfl)
  obtain ⟨a0, a1, rfl⟩ := list2 hx3
  obtain ⟨k, e0, _⟩ := fits_int (hx4 0 _ a0 rfl rfl).fits Tryd.underlying3
  obtain ⟨s, e1, _, hs⟩ := fitsZ_string (hx4 1 _ a1 rfl rfl) Tryd.underlying9
  simp only [List.cons.injEq, and_true] at e0 e1
  subst e0 e1
  refine ⟨⟨k, s.data.toList⟩, ?_, hs⟩
  unfold tokIC
  rw [show St s.data.toList = s from rfl]
theorem open_toksZ {c1 : Value} (h : FitsZ R enc Tryd.prog w 31 [c1]) : ∃ (A : Option Addr) (c : Nat) (l : List TokI), c1 = .slice A l.length c ∧ l.length ≤ c ∧ l.length ≤ R ∧ RowR tokISh w A l ∧ ∀ m ∈ l, m.t.length ≤ R := by
  have hk : Tryd.prog.cellsOf 33 = 2 := by kernel_rfl
  obtain ⟨A, n, c, L, hcs, hn, hc, hR, hl, hL, hr⟩ := fitsZ_slice h Tryd.underlying31 (by rw [hk]; omega) (Nat.le_of_ble_eq_true (by kernel_rfl))
  rw [hk] at hr
  obtain ⟨l, rfl, hq⟩ := choose_list (f := tokIC) (Q := fun m => m.t.length ≤ R) fun x hx => open_tokZ (hL x hx).2
  rw [List.length_map] at hl
  rw [map_flat] at hr
  subst hl
  simp only [List.cons.injEq, and_true] at hcs
  exact ⟨A, c, l, hcs, hn, hR, ⟨hr, fun m _ p hp => by cases hp⟩, hq⟩
set_option maxRecDepth 100000 in
theorem toks_arg {v : Value} {d : DataW H} {ps : List MemPlace} (hv : Value.okWide Tryd.prog W r b0 31 v) (h : DataW.Trod enc Tryd.prog W base0 spare held 31 v d ps) (hz : ∀ k ∈ d.weights Tryd.prog 31, k ≤ R) :
    ∃ (A : Option Addr) (c : Nat) (l : List TokI), v = .slice A l.length c ∧ l.length ≤ c ∧ l.length ≤ R ∧ RowR tokISh W A l ∧ ∀ m ∈ l, m.t.length ≤ R := by
  obtain ⟨A, n, c, rfl⟩ := okWide_slice Tryd.underlying31 hv
  obtain ⟨A', c', l, e, b⟩ := open_toksZ (fitsZ_plain h rfl hz)
  exact ⟨A', c', l, e, b⟩
end
end Go.Proofs.YtaljodmhalodhaaDoor
/-
  Tokens, written down, are read as they were: cubbylaw15.LexBack answers true, for all tokens, in quotes or as literals.
-/
namespace Go.Proofs.YtaljodmhalodhaaDoor.LexBack
open Go.RowKit Go.ChangeShapes Go.WideShapes Go.ChangeAt
open Go.ChangeMaps (open_string shut_string)
set_option linter.unusedVariables false
theorem own : ownKnob Tryd.prog.godebug = none := by kernel_rfl
set_option maxRecDepth 100000 in
theorem contract (H : Type) (enc : TypeId × Value → H) (W : World) (base : Nat) (args : Array Value) (ds gs : List (DataW H)) (before : List MemPlace)
    (hval : ∀ (j : Nat) t v, Tryd.f4.params[j]? = some t → args[j]? = some v → Value.okWide Tryd.prog W .any base t v)
    (hW : DataW.Whole enc Tryd.prog Tryd.f4.params.toList Rows.lexBackSpec.vars false W args.toList ds gs before) (hz : (DataW.weightsEach Tryd.prog (Tryd.f4.params.toList ++ (OpenSpec.ofChange Rows.lexBackSpec).bare.plain.varTypes Tryd.prog) (ds ++ gs)).all (· ≤ reachBytes) = true) (hL : laidMetH Tryd.prog Rows.lexBackRow.laid W) (hsh : W.ShapedOpen Tryd.prog) :
    Calls Tryd.prog 4 args W fun e W' => ∃ v, e = .returned v ∧ Rows.lexBackSpec.post enc Tryd.prog Tryd.f4 false true false false W args v W' := by
  have hW' := hW
  obtain ⟨p, q, hA0, hV, rfl, hfz, hnd⟩ := hW
  have hA : DataW.TrodAll enc Tryd.prog W 0 (fun _ => true) true Tryd.f4.params.toList args.toList ds p := hA0
  rw [Tryd.params4] at hA hval
  have hAk := hA
  obtain ⟨v0, v1, d0, d1, p0, p1, rfl, rfl, rfl, g0, g1⟩ := trodAll_two hA
  obtain ⟨rfl, rfl⟩ := trodVars_none hV
  obtain ⟨A, c, l, rfl, hlc, hlz, hr, hsz⟩ := toks_arg (hval 0 31 v0 rfl rfl) g0 (sized_at hz (j := 0) (t := 31) (by kernel_rfl) rfl)
  obtain ⟨lit, rfl⟩ := bool_arg (hval 1 4 v1 rfl rfl) g1
  obtain ⟨mx, hm⟩ : ∃ mx, W.cell? ⟨0, 0, none⟩ = some (.int .i64 mx) := Go.Proofs.cell_of_shapedOpen_int (zero := #[.int .i64 0]) (t := 3) hsh (of_decide_eq_true (by kernel_rfl)) (by kernel_rfl) rfl (by kernel_rfl) (by kernel_rfl) Tryd.underlying3
  clear hA0
  refine (lexBack_law A l.length c l lit mx W hm rfl hlz hr hsz).mono fun e W' ⟨he, hb⟩ => ?_
  subst he
  exact ⟨_, rfl, post_of_below (pv := []) hW' (fun _ _ _ => trodAll_mk1 (shut_bool Tryd.underlying4 _)) (fun sp hsp => args_stay (by kernel_rfl) (by kernel_rfl) hAk (fun x hx => hb.same (by simpa using hW'.lt x (List.mem_append_left _ hx))) (fun x hx => hsp x (List.mem_append_left _ hx))) (fun _ _ => rfl) rfl
    hb (ok_one (by kernel_rfl) rfl (okWide_bool_mk Tryd.underlying4 _))⟩
set_option maxRecDepth 100000 in
theorem reads (os : Os) {H : Type} (enc : TypeId × Value → H) : ∃ places, DataW.whole enc Tryd.prog ((World.laidAll Tryd.prog os Rows.lexBackRow.laid).forCall (fun _ _ => 0) ⟨#[], #[.slice none 0 0, .bool false], []⟩).memory Tryd.f4.params.toList Rows.lexBackSpec.vars false #[Value.slice none 0 0, Value.bool false].toList 8 = some ([.nil, .lit (.bool false)], [], places) :=
  ⟨[], by kernel_rfl⟩
set_option maxRecDepth 100000 in
theorem lifted (os : Os) (started : os.Started) (H : Type) (enc : TypeId × Value → H) (F : Stop.Interp) :
    ReturnsInHanded {} Tryd.checked os 4 .any ((OpenSpec.ofChange Rows.lexBackSpec).preRow enc Tryd.prog Tryd.f4 Rows.lexBackRow.domain false Rows.lexBackRow.laid) (((OpenSpec.ofChange Rows.lexBackSpec).at F).post enc Tryd.prog Tryd.f4 false true false false) := by
  obtain ⟨places, hx⟩ := reads os enc
  refine returnsInHanded_of_row (C := Tryd.checked) (s := OpenSpec.ofChange Rows.lexBackSpec) own started (by kernel_rfl) Tryd.func4
    (witness_row_shaped (enc := enc) (C := Tryd.checked) false (World.laidAll Tryd.prog os Rows.lexBackRow.laid) #[.slice none 0 0, .bool false] (World.laidAll_os _ _ _) (World.shaped_of_ZipB (by kernel_rfl) (by kernel_rfl)) (by kernel_rfl)
      (OpenSpec.preRow_of_cond 8 hx (by kernel_rfl) (fun k hk => by cases hk) (by kernel_rfl) (laidMet_laidAll _ (by kernel_rfl) (by kernel_rfl)))) ?_
  intro W base args ds gs before hval hW _ _ hz hL hsh _
  exact contract H enc W base args ds gs before hval hW hz hL hsh
theorem said : Rows.LexBackSaid :=
  OpenClaim.holds_of_cond 4 Tryd.f4 rfl rfl rfl rfl rfl rfl rfl ⟨rfl, rfl, rfl, rfl, rfl⟩ rfl rfl rfl rfl rfl (by kernel_rfl) Tryd.func4 (by kernel_rfl)
    (of_decide_eq_true (by kernel_rfl)) (by unfold Func.isWrapper; first | (rw [if_pos (by decide +kernel)]; kernel_rfl) | (rw [if_neg (by decide +kernel)]; exact ⟨rfl, rfl⟩))
    (fun os started H enc _ F => by rw [OpenClaim.pre_eq_preRow]; exact lifted os started H enc F)
theorem plain (f : FuncId) (fn : Func) (hf : Tryd.pinned.checked.prog.funcNamed "cubby/cubbylaw15.LexBack" = some f) (hfn : Tryd.pinned.checked.prog.funcs[f]? = some fn) :
    true = Tryd.pinned.checked.prog.looks [] ∧ ∀ (j : Nat) t, fn.params[j]? = some t → Tryd.pinned.checked.prog.wantsStandIn t = false := by
  obtain rfl : f = 4 := Option.some.inj ((show Tryd.prog.funcNamed "cubby/cubbylaw15.LexBack" = some 4 by kernel_rfl).symm.trans hf) |>.symm
  obtain rfl : fn = Tryd.f4 := (Option.some.inj (Tryd.func4.symm.trans hfn)).symm
  refine ⟨by kernel_rfl, fun j t ht => ?_⟩
  rw [Tryd.params4] at ht
  have hm : t ∈ [31, 4] := by simpa using Array.mem_of_getElem? ht
  have hall : ([31, 4].all fun u => !Tryd.prog.wantsStandIn u) = true := by kernel_rfl
  exact (show Tryd.prog.wantsStandIn t = false by simpa using List.all_eq_true.1 hall t hm)
theorem holds : Rows.LexBackCardSaid :=
  Claim7.holds_tied_plain_at .later [] _ _ _ _ said (fun _ h => by cases h) (by kernel_rfl) (fun _ h => by cases h) lexBack_row_tie rfl ⟨rfl, rfl⟩ (by kernel_rfl) rfl plain (by kernel_rfl)
#print axioms holds
end Go.Proofs.YtaljodmhalodhaaDoor.LexBack
