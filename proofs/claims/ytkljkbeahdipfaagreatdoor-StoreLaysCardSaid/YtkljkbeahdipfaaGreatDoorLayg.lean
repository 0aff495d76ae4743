/-
  A file that is laid has these bytes, safe, or those that it had, wherever the power goes: cubbylaw19.StoreLays answers true, for all bytes, every fuse and whatever is kept.
-/
import Derived.Test.YtkljkbeahdipfaaGreatDoorLayf
import Derived.Test.YtkljkbeahdipfaaGreatDoorCards
import Derived.Test.YtkljkbeahdipfaaGreatDoorTie
import Derived.SevenTiedAt
namespace Go.Proofs.YtkljkbeahdipfaaGreatDoor.StoreLays
open Go.RowKit Go.ChangeShapes Go.WideShapes Go.ChangeAt
open Go.ChangeMaps (open_string shut_string)
set_option linter.unusedVariables false
theorem own : ownKnob Tryz.prog.godebug = none := by kernel_rfl
set_option maxRecDepth 100000 in
theorem contract (H : Type) (enc : TypeId × Value → H) (W : World) (base : Nat) (args : Array Value) (ds gs : List (DataW H)) (before : List MemPlace)
 (hval : ∀ (j : Nat) t v, Tryz.f4.params[j]? = some t → args[j]? = some v → Value.okWide Tryz.prog W .any base t v)
 (hW : DataW.Whole enc Tryz.prog Tryz.f4.params.toList Rows.storeLaysSpec.vars false W args.toList ds gs before) (hz : (DataW.weightsEach Tryz.prog (Tryz.f4.params.toList ++ (OpenSpec.ofChange Rows.storeLaysSpec).bare.plain.varTypes Tryz.prog) (ds ++ gs)).all (· ≤ reachBytes) = true) (hL : laidMetH Tryz.prog Rows.storeLaysRow.laid W) (hsh : W.ShapedOpen Tryz.prog) :
 Calls Tryz.prog 4 args W fun e W' => ∃ v, e = .returned v ∧ Rows.storeLaysSpec.post enc Tryz.prog Tryz.f4 false true false false W args v W' := by
 have hW' := hW
 obtain ⟨p, q, hA0, hV, rfl, hfz, hnd⟩ := hW
 have hA : DataW.TrodAll enc Tryz.prog W 0 (fun _ => true) true Tryz.f4.params.toList args.toList ds p := hA0
 rw [Tryz.params4] at hA hval
 have hAk := hA
 obtain ⟨v0, v1, v2, v3, d0, d1, d2, d3, p0, p1, p2, p3, rfl, rfl, rfl, g0, g1, g2, g3⟩ := trodAll_four hA
 obtain ⟨rfl, rfl⟩ := trodVars_none hV
 obtain ⟨A, c, x, rfl, hxc, _, hxR, hrx⟩ := bytes_arg (hval 0 22 v0 rfl rfl) g0 (sized_at hz (j := 0) (t := 22) (by kernel_rfl) rfl)
 obtain ⟨A2, c2, y, rfl, hyc, _, hyR, hry⟩ := bytes_arg (hval 1 22 v1 rfl rfl) g1 (sized_at hz (j := 1) (t := 22) (by kernel_rfl) rfl)
 obtain ⟨f, rfl, hf⟩ := u8_argN (hval 2 5 v2 rfl rfl) g2
 obtain ⟨K, ck, keep, rfl, hrk, hk, hkR⟩ := open_i64s Tryz.underlying35 Tryz.underlying3 (by kernel_rfl) (Nat.le_of_ble_eq_true (by kernel_rfl)) (hval 3 35 v3 rfl rfl) g3
 have hw : EnvS W := env_met hL hsh (by kernel_rfl) (by kernel_rfl) (by kernel_rfl)
 clear hA0
 refine (storeLays_any A A2 K c c2 ck x y f keep W hw hxc hyc hxR hyR hf (hkR _ (sized_at hz (j := 3) (t := 35) (by kernel_rfl) rfl)) hk hrx hry hrk).mono fun e W' ⟨he, hb⟩ => ?_
 subst he
 exact ⟨_, rfl, post_of_below (pv := []) hW' (fun _ _ _ => trodAll_mk1 (shut_bool Tryz.underlying4 _)) (fun sp hsp => args_stay (by kernel_rfl) (by kernel_rfl) hAk (fun x hx => hb.same (by simpa using hW'.lt x (List.mem_append_left _ hx))) (fun x hx => hsp x (List.mem_append_left _ hx))) (fun _ _ => rfl) rfl
  hb (ok_one (by kernel_rfl) rfl (okWide_bool_mk Tryz.underlying4 _))⟩
set_option maxRecDepth 100000 in
theorem reads (os : Os) {H : Type} (enc : TypeId × Value → H) : ∃ places, DataW.whole enc Tryz.prog ((World.laidAll Tryz.prog os Rows.storeLaysRow.laid).forCall (fun _ _ => 0) ⟨#[], #[.slice none 0 0, .slice none 0 0, .int .u8 0, .slice none 0 0], []⟩).memory Tryz.f4.params.toList Rows.storeLaysSpec.vars false #[Value.slice none 0 0, Value.slice none 0 0, Value.int .u8 0, Value.slice none 0 0].toList 8 = some ([.nil, .nil, .lit (.int .u8 0), .nil], [], places) :=
 ⟨[], by kernel_rfl⟩
set_option maxRecDepth 100000 in
theorem lifted (os : Os) (started : os.Started) (H : Type) (enc : TypeId × Value → H) (F : Stop.Interp) :
 ReturnsInHanded {} Tryz.checked os 4 .any ((OpenSpec.ofChange Rows.storeLaysSpec).preRow enc Tryz.prog Tryz.f4 Rows.storeLaysRow.domain false Rows.storeLaysRow.laid) (((OpenSpec.ofChange Rows.storeLaysSpec).at F).post enc Tryz.prog Tryz.f4 false true false false) := by
 obtain ⟨places, hx⟩ := reads os enc
 refine returnsInHanded_of_row (C := Tryz.checked) (s := OpenSpec.ofChange Rows.storeLaysSpec) own started (by kernel_rfl) Tryz.func4
  (witness_row_shaped (enc := enc) (C := Tryz.checked) false (World.laidAll Tryz.prog os Rows.storeLaysRow.laid) #[.slice none 0 0, .slice none 0 0, .int .u8 0, .slice none 0 0] (World.laidAll_os _ _ _) (World.shaped_of_ZipB (by kernel_rfl) (by kernel_rfl)) (by kernel_rfl)
   (OpenSpec.preRow_of_cond 8 hx (by kernel_rfl) (fun k hk => by cases hk) (by kernel_rfl) (laidMet_laidAll _ (by kernel_rfl) (by kernel_rfl)))) ?_
 intro W base args ds gs before hval hW _ _ hz hL hsh _
 exact contract H enc W base args ds gs before hval hW hz hL hsh
end Go.Proofs.YtkljkbeahdipfaaGreatDoor.StoreLays
namespace Go.Proofs.YtkljkbeahdipfaaGreatDoor.StoreLays
open Go.RowKit Go.ChangeShapes Go.WideShapes Go.ChangeAt
open Go.ChangeMaps (open_string shut_string)
set_option linter.unusedVariables false
set_option maxHeartbeats 8000000
theorem and_mk {a b : Bool} (ha : a = true) (hb : b = true) : (a && b) = true := by rw [ha, hb]; rfl
theorem closed : joinedFacts Tryz.pinned.checked.prog 4 Tryz.f4 (OpenSpec.ofChange Rows.storeLaysSpec).bare Rows.storeLaysRow = true := by
 unfold joinedFacts
 repeat' (with_reducible refine and_mk ?_ ?_)
 all_goals (as_aux_lemma => kernel_rfl)
theorem said : Rows.StoreLaysSaid :=
 OpenClaim.holds_of_cond 4 Tryz.f4 rfl rfl rfl rfl rfl rfl rfl ⟨rfl, rfl, rfl, rfl, rfl⟩ rfl rfl rfl rfl rfl (by as_aux_lemma => kernel_rfl) Tryz.func4 closed
  (of_decide_eq_true (by as_aux_lemma => kernel_rfl)) (by unfold Func.isWrapper; first | (rw [if_pos (by decide +kernel)]; as_aux_lemma => kernel_rfl) | (rw [if_neg (by decide +kernel)]; exact ⟨rfl, rfl⟩))
  (fun os started H enc _ F => by rw [OpenClaim.pre_eq_preRow]; exact lifted os started H enc F)
theorem plain (f : FuncId) (fn : Func) (hf : Tryz.pinned.checked.prog.funcNamed "cubby/cubbylaw19.StoreLays" = some f) (hfn : Tryz.pinned.checked.prog.funcs[f]? = some fn) :
 true = Tryz.pinned.checked.prog.looks [] ∧ ∀ (j : Nat) t, fn.params[j]? = some t → Tryz.pinned.checked.prog.wantsStandIn t = false := by
 obtain rfl : f = 4 := Option.some.inj ((show Tryz.prog.funcNamed "cubby/cubbylaw19.StoreLays" = some 4 by kernel_rfl).symm.trans hf) |>.symm
 obtain rfl : fn = Tryz.f4 := (Option.some.inj (Tryz.func4.symm.trans hfn)).symm
 refine ⟨by kernel_rfl, fun j t ht => ?_⟩
 rw [Tryz.params4] at ht
 have hm : t ∈ [22, 22, 5, 35] := by simpa using Array.mem_of_getElem? ht
 have hall : ([22, 22, 5, 35].all fun u => !Tryz.prog.wantsStandIn u) = true := by kernel_rfl
 exact (show Tryz.prog.wantsStandIn t = false by simpa using List.all_eq_true.1 hall t hm)
theorem holds : Rows.StoreLaysCardSaid :=
 Claim7.holds_tied_plain_at .later [] _ _ _ _ said (fun _ h => by cases h) (by as_aux_lemma => kernel_rfl) (fun _ h => by cases h) storeLays_row_tie rfl ⟨rfl, rfl⟩ (by as_aux_lemma => kernel_rfl) rfl plain (by as_aux_lemma => kernel_rfl)
#print axioms holds
end Go.Proofs.YtkljkbeahdipfaaGreatDoor.StoreLays
