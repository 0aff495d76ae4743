/-
  Whatever is done, wherever the power goes, and whatever is kept: each answer, and all bytes, are the document's: cubbylaw01.DiskPlays answers true, for every capacity and every script.
-/
import Derived.Test.YtplbclbeccoegaaDiskPlaysB
import Derived.Test.YtplbclbeccoegaaRows
import Derived.JoinedCond
import Derived.LaidSub
import Derived.MakeChecks
namespace Go.Proofs.Ytplbclbeccoegaa.DiskPlays
open Go.RowKit Go.ChangeShapes Go.WideShapes Go.ChangeAt
open Go.ChangeMaps (open_string shut_string)
theorem own : ownKnob Try.prog.godebug = none := by kernel_rfl
set_option maxRecDepth 100000 in
theorem contract (H : Type) (enc : TypeId × Value → H) (W : World) (base : Nat) (args : Array Value) (ds gs : List (DataW H)) (before : List MemPlace)
    (hval : ∀ (j : Nat) t v, Try.f3.params[j]? = some t → args[j]? = some v → Value.okWide Try.prog W .any base t v)
    (hW : DataW.Whole enc Try.prog Try.f3.params.toList Rows.diskPlaysSpec.vars false W args.toList ds gs before) (hz : (DataW.weightsEach Try.prog (Try.f3.params.toList ++ (OpenSpec.ofChange Rows.diskPlaysSpec).bare.plain.varTypes Try.prog) (ds ++ gs)).all (· ≤ reachBytes) = true) :
    Calls Try.prog 3 args W fun e W' => ∃ v, e = .returned v ∧ Rows.diskPlaysSpec.post enc Try.prog Try.f3 false true false false W args v W' := by
  have hW' := hW
  obtain ⟨p, q, hA0, hV, rfl, hfz, hnd⟩ := hW
  have hA : DataW.TrodAll enc Try.prog W 0 (fun _ => true) true Try.f3.params.toList args.toList ds p := hA0
  rw [Try.params3] at hA hval
  obtain ⟨v0, v1, d0, d1, p0, p1, rfl, rfl, rfl, g0, g1⟩ := trodAll_two hA
  obtain ⟨rfl, rfl⟩ := trodVars_none hV
  have hAk := hA
  obtain ⟨x0, rfl, _, _, h0⟩ := open_int Try.underlying3 (hval 0 3 v0 rfl rfl) g0
  obtain ⟨A1, c1, x1, rfl, r1, h1, s1⟩ := open_acts Try.underlying22 Try.underlying36 rfl (by kernel_rfl) (by kernel_rfl) (Nat.le_of_ble_eq_true (by kernel_rfl)) rfl rfl rfl rfl rfl rfl Try.underlying5 Try.underlying9 Try.underlying3 Try.underlying33 Try.underlying5 (by kernel_rfl) (Nat.le_of_ble_eq_true (by kernel_rfl)) Try.underlying34 Try.underlying3 (by kernel_rfl) (Nat.le_of_ble_eq_true (by kernel_rfl)) (hval 1 22 v1 rfl rfl) g1
  clear hA0
  have z1 := s1 _ (sized_at hz (j := 1) (t := 22) (by kernel_rfl) rfl)
  refine (diskPlays x0 (by have h := h0; simp only [Lit.wf, Bool.and_eq_true, decide_eq_true_eq] at h; exact h) A1 c1 x1 W r1 h1 z1.2 z1.1).mono fun e W' ⟨he, hb⟩ => ?_
  subst he
  exact ⟨_, rfl, post_of_below (pv := []) hW' (fun _ _ _ => trodAll_mk1 (shut_bool Try.underlying4 _)) (fun sp hsp => trodAll_stays (by kernel_rfl) (by kernel_rfl) hAk (fun x hx => hb.same (by simpa using hW'.lt x (List.mem_append_left _ hx))) (fun x hx => hsp x (List.mem_append_left _ hx))) (fun _ _ => rfl) rfl
    hb (ok_one (by kernel_rfl) rfl (okWide_bool_mk Try.underlying4 _))⟩
set_option maxRecDepth 100000 in
theorem reads (os : Os) {H : Type} (enc : TypeId × Value → H) : ∃ places, DataW.whole enc Try.prog ((World.laidAll Try.prog os Rows.diskPlaysRow.laid).forCall (fun _ _ => 0) ⟨#[], #[.int .i64 0, .slice none 0 0], []⟩).memory Try.f3.params.toList Rows.diskPlaysSpec.vars false #[Value.int .i64 0, Value.slice none 0 0].toList 8 = some ([.lit (.int .i64 0), .nil], [], places) :=
  ⟨[], by kernel_rfl⟩
set_option maxRecDepth 100000 in
theorem lifted (os : Os) (started : os.Started) (H : Type) (enc : TypeId × Value → H) (F : Stop.Interp) :
    ReturnsInHanded {} Try.checked os 3 .any ((OpenSpec.ofChange Rows.diskPlaysSpec).preRow enc Try.prog Try.f3 Rows.diskPlaysRow.domain false Rows.diskPlaysRow.laid) (((OpenSpec.ofChange Rows.diskPlaysSpec).at F).post enc Try.prog Try.f3 false true false false) := by
  obtain ⟨places, hx⟩ := reads os enc
  refine returnsInHanded_of_row (C := Try.checked) (s := OpenSpec.ofChange Rows.diskPlaysSpec) own started (by kernel_rfl) Try.func3
    (witness_row_shaped (enc := enc) (C := Try.checked) false (World.laidAll Try.prog os Rows.diskPlaysRow.laid) #[.int .i64 0, .slice none 0 0] (World.laidAll_os _ _ _) (World.shaped_of_ZipB (by kernel_rfl) (by kernel_rfl)) (by kernel_rfl)
      (OpenSpec.preRow_of_cond 8 hx (by kernel_rfl) (fun k hk => by cases hk) (by kernel_rfl) (laidMet_laidAll _ (by kernel_rfl) (by kernel_rfl)))) ?_
  intro W base args ds gs before hval hW _ _ hz _ _ _
  exact contract H enc W base args ds gs before hval hW hz
theorem holds : Rows.DiskPlaysSaid :=
  OpenClaim.holds_of_cond 3 Try.f3 rfl rfl rfl rfl rfl rfl rfl ⟨rfl, rfl, rfl, rfl, rfl⟩ rfl rfl rfl rfl rfl (by kernel_rfl) Try.func3 (by kernel_rfl)
    (of_decide_eq_true (by kernel_rfl)) (by unfold Func.isWrapper; first | (rw [if_pos (by decide +kernel)]; kernel_rfl) | (rw [if_neg (by decide +kernel)]; exact ⟨rfl, rfl⟩))
    (fun os started H enc _ F => by rw [OpenClaim.pre_eq_preRow]; exact lifted os started H enc F)
#print axioms holds
end Go.Proofs.Ytplbclbeccoegaa.DiskPlays
