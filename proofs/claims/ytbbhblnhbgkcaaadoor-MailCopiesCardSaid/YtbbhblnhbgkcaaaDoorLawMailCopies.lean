/-
  Those that are named are put behind, in order, of new UIDs; or nothing is: cubbylaw12.MailCopies answers true, for every two mailboxes and all UIDs.
-/
import Derived.Test.YtbbhblnhbgkcaaaDoorCards
import Derived.Test.YtbbhblnhbgkcaaaDoorTie
import Derived.Test.YtbbhblnhbgkcaaaDoorMailCopiesW
import Derived.Test.YtbbhblnhbgkcaaaDoorMailArgs
import Derived.SevenTiedAt
namespace Go.Proofs.YtbbhblnhbgkcaaaDoor.MailCopies
open Go.RowKit Go.ChangeShapes Go.WideShapes Go.ChangeAt
open Go.ChangeMaps (open_string shut_string)
set_option linter.unusedVariables false
theorem own : ownKnob Tryd.prog.godebug = none := by kernel_rfl
set_option maxRecDepth 100000 in
theorem contract (H : Type) (enc : TypeId × Value → H) (W : World) (base : Nat) (args : Array Value) (ds gs : List (DataW H)) (before : List MemPlace)
    (hval : ∀ (j : Nat) t v, Tryd.f7.params[j]? = some t → args[j]? = some v → Value.okWide Tryd.prog W .any base t v)
    (hW : DataW.Whole enc Tryd.prog Tryd.f7.params.toList Rows.mailCopiesSpec.vars false W args.toList ds gs before) (hz : (DataW.weightsEach Tryd.prog (Tryd.f7.params.toList ++ (OpenSpec.ofChange Rows.mailCopiesSpec).bare.plain.varTypes Tryd.prog) (ds ++ gs)).all (· ≤ reachBytes) = true) (hL : laidMetH Tryd.prog Rows.mailCopiesRow.laid W) (hsh : W.ShapedOpen Tryd.prog) :
    Calls Tryd.prog 7 args W fun e W' => ∃ v, e = .returned v ∧ Rows.mailCopiesSpec.post enc Tryd.prog Tryd.f7 false true false false W args v W' := by
  have hW' := hW
  obtain ⟨p, q, hA0, hV, rfl, hfz, hnd⟩ := hW
  have hA : DataW.TrodAll enc Tryd.prog W 0 (fun _ => true) true Tryd.f7.params.toList args.toList ds p := hA0
  rw [Tryd.params7] at hA hval
  have hAk := hA
  obtain ⟨v0, v1, v2, d0, d1, d2, p0, p1, p2, rfl, rfl, rfl, g0, g1, g2⟩ := trodAll_three hA
  obtain ⟨rfl, rfl⟩ := trodVars_none hV
  obtain ⟨nm, e, nx, A, c, l, rfl, b1, b2, b3, b4, b5, b6, b7, b8, b9⟩ := box_arg (hval 0 25 v0 rfl rfl) g0 (sized_at hz (j := 0) (t := 25) (by kernel_rfl) rfl)
  obtain ⟨nm2, e2, nx2, A2, c2, l2, rfl, q1, q2, q3, q4, q5, q6, q7, q8, q9⟩ := box_arg (hval 1 25 v1 rfl rfl) g1 (sized_at hz (j := 1) (t := 25) (by kernel_rfl) rfl)
  obtain ⟨Au, cu, us, rfl, u1, u2, u3, u4, u5⟩ := u32s_arg (hval 2 42 v2 rfl rfl) g2 (sized_at hz (j := 2) (t := 42) (by kernel_rfl) rfl)
  obtain ⟨mx, hm⟩ := Tryd.laysM146.s1_3 W hsh
  have ht : Lib.TabIs Tryd.prog W "internal/strconv.uint64pow10" .u64 Lib.pow10Tab := tab_met hL (by kernel_rfl)
  clear hA0
  refine (copies_law nm nm2 A A2 Au c c2 cu l.length l2.length e e2 nx nx2 us.length l l2 us W ⟨mx, hm⟩ (block_lt_of_cell hm) ht b2 q2 b7 q7 q4 (fun x hx => (b9 x hx).size) (fun x hx => (q9 x hx).size) b8 q8 u3 rfl u5).mono fun e W' ⟨he, hb⟩ => ?_
  subst he
  exact ⟨_, rfl, post_of_below (pv := []) hW' (fun _ _ _ => trodAll_mk1 (shut_bool Tryd.underlying4 _)) (fun sp hsp => args_stay (by kernel_rfl) (by kernel_rfl) hAk (fun x hx => hb.same (by simpa using hW'.lt x (List.mem_append_left _ hx))) (fun x hx => hsp x (List.mem_append_left _ hx))) (fun _ _ => rfl) rfl
    hb (ok_one (by kernel_rfl) rfl (okWide_bool_mk Tryd.underlying4 _))⟩
set_option maxRecDepth 100000 in
theorem reads (os : Os) {H : Type} (enc : TypeId × Value → H) : ∃ places, DataW.whole enc Tryd.prog ((World.laidAll Tryd.prog os Rows.mailCopiesRow.laid).forCall (fun _ _ => 0) ⟨#[], #[.agg #[.string ⟨#[]⟩, .int .u32 0, .int .u32 0, .slice none 0 0], .agg #[.string ⟨#[]⟩, .int .u32 0, .int .u32 0, .slice none 0 0], .slice none 0 0], []⟩).memory Tryd.f7.params.toList Rows.mailCopiesSpec.vars false #[Value.agg #[.string ⟨#[]⟩, .int .u32 0, .int .u32 0, .slice none 0 0], Value.agg #[.string ⟨#[]⟩, .int .u32 0, .int .u32 0, .slice none 0 0], Value.slice none 0 0].toList 8 = some ([.agg [.lit (.string []), .lit (.int .u32 0), .lit (.int .u32 0), .nil], .agg [.lit (.string []), .lit (.int .u32 0), .lit (.int .u32 0), .nil], .nil], [], places) :=
  ⟨[], by kernel_rfl⟩
set_option maxRecDepth 100000 in
theorem lifted (os : Os) (started : os.Started) (H : Type) (enc : TypeId × Value → H) (F : Stop.Interp) :
    ReturnsInHanded {} Tryd.checked os 7 .any ((OpenSpec.ofChange Rows.mailCopiesSpec).preRow enc Tryd.prog Tryd.f7 Rows.mailCopiesRow.domain false Rows.mailCopiesRow.laid) (((OpenSpec.ofChange Rows.mailCopiesSpec).at F).post enc Tryd.prog Tryd.f7 false true false false) := by
  obtain ⟨places, hx⟩ := reads os enc
  refine returnsInHanded_of_row (C := Tryd.checked) (s := OpenSpec.ofChange Rows.mailCopiesSpec) own started (by kernel_rfl) Tryd.func7
    (witness_row_shaped (enc := enc) (C := Tryd.checked) false (World.laidAll Tryd.prog os Rows.mailCopiesRow.laid) #[.agg #[.string ⟨#[]⟩, .int .u32 0, .int .u32 0, .slice none 0 0], .agg #[.string ⟨#[]⟩, .int .u32 0, .int .u32 0, .slice none 0 0], .slice none 0 0] (World.laidAll_os _ _ _) (World.shaped_of_ZipB (by kernel_rfl) (by kernel_rfl)) (by kernel_rfl)
      (OpenSpec.preRow_of_cond 8 hx (by kernel_rfl) (fun k hk => by cases hk) (by kernel_rfl) (laidMet_laidAll _ (by kernel_rfl) (by kernel_rfl)))) ?_
  intro W base args ds gs before hval hW _ _ hz hL hsh _
  exact contract H enc W base args ds gs before hval hW hz hL hsh
theorem said : Rows.MailCopiesSaid :=
  OpenClaim.holds_of_cond 7 Tryd.f7 rfl rfl rfl rfl rfl rfl rfl ⟨rfl, rfl, rfl, rfl, rfl⟩ rfl rfl rfl rfl rfl (by kernel_rfl) Tryd.func7 (by kernel_rfl)
    (of_decide_eq_true (by kernel_rfl)) (by unfold Func.isWrapper; first | (rw [if_pos (by decide +kernel)]; kernel_rfl) | (rw [if_neg (by decide +kernel)]; exact ⟨rfl, rfl⟩))
    (fun os started H enc _ F => by rw [OpenClaim.pre_eq_preRow]; exact lifted os started H enc F)
theorem plain (f : FuncId) (fn : Func) (hf : Tryd.pinned.checked.prog.funcNamed "cubby/cubbylaw12.MailCopies" = some f) (hfn : Tryd.pinned.checked.prog.funcs[f]? = some fn) :
    false = Tryd.pinned.checked.prog.looks [] ∧ ∀ (j : Nat) t, fn.params[j]? = some t → Tryd.pinned.checked.prog.wantsStandIn t = false := by
  obtain rfl : f = 7 := Option.some.inj ((show Tryd.prog.funcNamed "cubby/cubbylaw12.MailCopies" = some 7 by kernel_rfl).symm.trans hf) |>.symm
  obtain rfl : fn = Tryd.f7 := (Option.some.inj (Tryd.func7.symm.trans hfn)).symm
  refine ⟨by kernel_rfl, fun j t ht => ?_⟩
  rw [Tryd.params7] at ht
  have hm : t ∈ [25, 25, 42] := by simpa using Array.mem_of_getElem? ht
  have hall : ([25, 25, 42].all fun u => !Tryd.prog.wantsStandIn u) = true := by kernel_rfl
  exact (show Tryd.prog.wantsStandIn t = false by simpa using List.all_eq_true.1 hall t hm)
theorem holds : Rows.MailCopiesCardSaid :=
  Claim7.holds_tied_plain_at .later [] _ _ _ _ said (fun _ h => by cases h) (by kernel_rfl) (fun _ h => by cases h) mailCopies_row_tie rfl ⟨rfl, rfl⟩ (by kernel_rfl) rfl plain (by kernel_rfl)
#print axioms holds
end Go.Proofs.YtbbhblnhbgkcaaaDoor.MailCopies
