/-
  Any bytes are an index, flags, a tree, just that, or damaged: cubbylaw11.IndexReads answers true, for every row of bytes.
-/
import Derived.Test.YtljclehhicmkhaaDoorCards
import Derived.Test.YtljclehhicmkhaaDoorTie
import Derived.Test.YtljclehhicmkhaaDoorReadsW
import Derived.Test.YtljclehhicmkhaaDoorIdxArgs
import Derived.SevenTiedAt
namespace Go.Proofs.YtljclehhicmkhaaDoor
open Go.RowKit
theorem u8s_flat : ∀ l : List UInt8, (l.map fun b : UInt8 => [Value.int .u8 ((b.toNat : Nat) : Int)]).flatten = u8s l
  | [] => rfl
  | x :: r => by
    rw [List.map_cons, List.flatten_cons, u8s_flat r]
    rfl
theorem open_bytes {H : Type} {enc : TypeId × Value → H} {w : World} {c1 : Value} (h : Fits enc Tryd.prog w 24 [c1]) : ∃ (A : Option Addr) (c : Nat) (l : List UInt8), c1 = .slice A l.length c ∧ l.length ≤ c ∧ c ≤ maxLen ∧ Reads w w.heap.size 1 A l.length (u8s l) := by
  have hk : Tryd.prog.cellsOf 5 = 1 := by kernel_rfl
  obtain ⟨A, n, c, L, hcs, hn, hc, hl, hL, hr⟩ := fits_slice h Tryd.underlying24 (by rw [hk]; omega)
  rw [hk] at hr
  obtain ⟨l, rfl, _⟩ := choose_list (f := fun b : UInt8 => [Value.int .u8 ((b.toNat : Nat) : Int)]) (Q := fun _ => True) fun x hx => by
    obtain ⟨_, hx2⟩ := hL x hx
    obtain ⟨u, rfl, hu⟩ := fits_int hx2 Tryd.underlying5
    simp [Lit.wf, IntKind.min, IntKind.max, IntKind.signed, IntKind.bits] at hu
    exact ⟨UInt8.ofNat u.toNat, by simp; omega, trivial⟩
  rw [List.length_map] at hl
  have e := u8s_flat l
  rw [e] at hr
  subst hl
  simp only [List.cons.injEq, and_true] at hcs
  exact ⟨A, c, l, hcs, hn, hc, hr⟩
end Go.Proofs.YtljclehhicmkhaaDoor
namespace Go.Proofs.YtljclehhicmkhaaDoor.IndexReads
open Go.RowKit Go.ChangeShapes Go.WideShapes Go.ChangeAt
open Go.ChangeMaps (open_string shut_string)
theorem own : ownKnob Tryd.prog.godebug = none := by kernel_rfl
set_option maxRecDepth 100000 in
theorem contract (H : Type) (enc : TypeId × Value → H) (W : World) (base : Nat) (args : Array Value) (ds gs : List (DataW H)) (before : List MemPlace)
    (hval : ∀ (j : Nat) t v, Tryd.f6.params[j]? = some t → args[j]? = some v → Value.okWide Tryd.prog W .any base t v)
    (hW : DataW.Whole enc Tryd.prog Tryd.f6.params.toList Rows.indexReadsSpec.vars false W args.toList ds gs before) (hsh : W.ShapedOpen Tryd.prog) :
    Calls Tryd.prog 6 args W fun e W' => ∃ v, e = .returned v ∧ Rows.indexReadsSpec.post enc Tryd.prog Tryd.f6 false true false false W args v W' := by
  have hW' := hW
  obtain ⟨p, q, hA0, hV, rfl, hfz, hnd⟩ := hW
  have hA : DataW.TrodAll enc Tryd.prog W 0 (fun _ => true) true Tryd.f6.params.toList args.toList ds p := hA0
  rw [Tryd.params6] at hA hval
  have hAk := hA
  obtain ⟨v0, d0, rfl, rfl, g0⟩ := trodAll_one hA
  obtain ⟨rfl, rfl⟩ := trodVars_none hV
  obtain ⟨sA, sn, sc, rfl⟩ := okWide_slice Tryd.underlying24 (hval 0 24 v0 rfl rfl)
  obtain ⟨A, c, l, hv, hcn, hcm, hr⟩ := open_bytes (fits_plain g0 rfl)
  simp only [Value.slice.injEq] at hv
  obtain ⟨rfl, rfl, rfl⟩ := hv
  clear hA0
  obtain ⟨m, hm⟩ := Tryd.laysM146.s1_3 W hsh
  refine (reads_main sA sc l.length l W ⟨m, hm⟩ (block_lt_of_cell hm) rfl (by unfold maxLen at hcm; omega) hcn hr).mono fun e W' ⟨he, hb⟩ => ?_
  subst he
  exact ⟨_, rfl, post_of_below (pv := []) hW' (fun _ _ _ => trodAll_mk1 (shut_bool Tryd.underlying4 _)) (fun sp hsp => args_stay (by kernel_rfl) (by kernel_rfl) hAk (fun x hx => hb.same (by simpa using hW'.lt x (List.mem_append_left _ hx))) (fun x hx => hsp x (List.mem_append_left _ hx))) (fun _ _ => rfl) rfl
    hb (ok_one (by kernel_rfl) rfl (okWide_bool_mk Tryd.underlying4 _))⟩
set_option maxRecDepth 100000 in
theorem reads (os : Os) {H : Type} (enc : TypeId × Value → H) : ∃ places, DataW.whole enc Tryd.prog ((World.laidAll Tryd.prog os Rows.indexReadsRow.laid).forCall (fun _ _ => 0) ⟨#[], #[.slice none 0 0], []⟩).memory Tryd.f6.params.toList Rows.indexReadsSpec.vars false #[Value.slice none 0 0].toList 8 = some ([.nil], [], places) :=
  ⟨[], by kernel_rfl⟩
set_option maxRecDepth 100000 in
theorem lifted (os : Os) (started : os.Started) (H : Type) (enc : TypeId × Value → H) (F : Stop.Interp) :
    ReturnsInHanded {} Tryd.checked os 6 .any ((OpenSpec.ofChange Rows.indexReadsSpec).preRow enc Tryd.prog Tryd.f6 Rows.indexReadsRow.domain false Rows.indexReadsRow.laid) (((OpenSpec.ofChange Rows.indexReadsSpec).at F).post enc Tryd.prog Tryd.f6 false true false false) := by
  obtain ⟨places, hx⟩ := reads os enc
  refine returnsInHanded_of_row (C := Tryd.checked) (s := OpenSpec.ofChange Rows.indexReadsSpec) own started (by kernel_rfl) Tryd.func6
    (witness_row_shaped (enc := enc) (C := Tryd.checked) false (World.laidAll Tryd.prog os Rows.indexReadsRow.laid) #[.slice none 0 0] (World.laidAll_os _ _ _) (World.shaped_of_ZipB (by kernel_rfl) (by kernel_rfl)) (by kernel_rfl)
      (OpenSpec.preRow_of_cond 8 hx (by kernel_rfl) (fun k hk => by cases hk) (by kernel_rfl) (laidMet_laidAll _ (by kernel_rfl) (by kernel_rfl)))) ?_
  intro W base args ds gs before hval hW _ _ _ _ hsh _
  exact contract H enc W base args ds gs before hval hW hsh
theorem said : Rows.IndexReadsSaid :=
  OpenClaim.holds_of_cond 6 Tryd.f6 rfl rfl rfl rfl rfl rfl rfl ⟨rfl, rfl, rfl, rfl, rfl⟩ rfl rfl rfl rfl rfl (by kernel_rfl) Tryd.func6 (by kernel_rfl)
    (of_decide_eq_true (by kernel_rfl)) (by unfold Func.isWrapper; first | (rw [if_pos (by decide +kernel)]; kernel_rfl) | (rw [if_neg (by decide +kernel)]; exact ⟨rfl, rfl⟩))
    (fun os started H enc _ F => by rw [OpenClaim.pre_eq_preRow]; exact lifted os started H enc F)
theorem plain (f : FuncId) (fn : Func) (hf : Tryd.pinned.checked.prog.funcNamed "cubby/cubbylaw11.IndexReads" = some f) (hfn : Tryd.pinned.checked.prog.funcs[f]? = some fn) :
    false = Tryd.pinned.checked.prog.looks [] ∧ ∀ (j : Nat) t, fn.params[j]? = some t → Tryd.pinned.checked.prog.wantsStandIn t = false := by
  obtain rfl : f = 6 := Option.some.inj ((show Tryd.prog.funcNamed "cubby/cubbylaw11.IndexReads" = some 6 by kernel_rfl).symm.trans hf) |>.symm
  obtain rfl : fn = Tryd.f6 := (Option.some.inj (Tryd.func6.symm.trans hfn)).symm
  refine ⟨by kernel_rfl, fun j t ht => ?_⟩
  rw [Tryd.params6] at ht
  have hm : t ∈ [24] := by simpa using Array.mem_of_getElem? ht
  have hall : ([24].all fun u => !Tryd.prog.wantsStandIn u) = true := by kernel_rfl
  exact (show Tryd.prog.wantsStandIn t = false by simpa using List.all_eq_true.1 hall t hm)
theorem holds : Rows.IndexReadsCardSaid :=
  Claim7.holds_tied_plain_at .later [] _ _ _ _ said (fun _ h => by cases h) (by kernel_rfl) (fun _ h => by cases h) indexReads_row_tie rfl ⟨rfl, rfl⟩ (by kernel_rfl) rfl plain (by kernel_rfl)
#print axioms holds
end Go.Proofs.YtljclehhicmkhaaDoor.IndexReads
