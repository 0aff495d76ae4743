/-
  Any time's text is what the document says, and is read as it: cubbylaw07.DatePrints answers true, for every time.
-/
import Derived.Test.YtfnckkmnncdelaaDoorCards
import Derived.Test.YtfnckkmnncdelaaDoorTie
import Derived.Test.YtfnckkmnncdelaaDoorDateAwake
import Derived.Test.YtfnckkmnncdelaaDoorDateParse
import Derived.Test.YtfnckkmnncdelaaDoorDateBack2
import Derived.SevenTiedAt
namespace Go.Proofs.YtfnckkmnncdelaaDoor.DatePrints
open Go.RowKit Go.ChangeShapes Go.WideShapes Go.ChangeAt
open Go.ChangeMaps (open_string shut_string)
set_option maxHeartbeats 1000000 in
theorem law (t : Int) (ht : -9223372036854775808 ≤ t ∧ t ≤ 9223372036854775807) (w : World) (htab : Lib.TabIs Tryd.prog w "internal/strconv.uint64pow10" .u64 Lib.pow10Tab) :
    Calls Tryd.prog 8 #[.int .i64 t] w fun e w' => e = .returned (.bool true) ∧ Below w.heap.size w w' := by
  obtain ⟨hl, hh⟩ := ht
  have A1 := Lib.hid (awake07 w htab)
  have A2 := Lib.hid (fun w1 (hb : Below w.heap.size w w1) => print_any t w1 hl hh (Lib.tabBelow_of_tabIs htab w1 hb))
  have A3 := Lib.hid (fun w1 : World => refPrint_any t w1 hl hh)
  clear htab
  by_cases hr : t < 0 ∨ 253402300799 < t
  · have hv : printV t = ⟨#[]⟩ := by unfold printV; rw [if_pos hr]
    have A4 := Lib.hid (fun w1 : World => parse_any ⟨#[]⟩ (by decide) w1)
    rw [parse_empty] at A4
    rw [hv] at A2 A3
    clear hv hr
    go_enter Tryd.func8, Tryd.ntmps8
    go_wp2_with fail
    refine A1.out.mono ?_
    rintro e w1 ⟨rfl, hb1⟩
    go_wp2_with fail
    refine (A2.out w1 hb1).mono ?_
    rintro e w2 ⟨rfl, hb2⟩
    go_wp2_with fail
    refine (A3.out w2).mono ?_
    rintro e w3 ⟨rfl, hb3⟩
    go_wp2_with fail
    refine (A4.out w3).mono ?_
    rintro e w4 ⟨rfl, hb4⟩
    go_wp2
    go_ret
    exact ⟨rfl, below_seq (below_seq (below_seq hb1 hb2) hb3) hb4⟩
  · obtain ⟨t0, t1⟩ : 0 ≤ t ∧ t ≤ 253402300799 := by omega
    have hsz := (print_in t t0 t1).1
    have A4 := Lib.hid (fun w1 : World => parse_any (printV t) (by omega) w1)
    rw [print_back t t0 t1] at A4
    have A5 := Lib.hid (fun w1 : World => day_any t t0 t1 w1)
    clear hr
    generalize printV t = B at *
    have he : B.toList.isEmpty = false := by
      rw [ByteArray.toList_eq]
      cases hl : B.data.toList with
      | nil =>
        have : B.size = B.data.toList.length := by simp
        rw [hl, hsz] at this
        exact absurd this (by decide)
      | cons a l => rfl
    go_enter Tryd.func8, Tryd.ntmps8
    go_wp2_with fail
    refine A1.out.mono ?_
    rintro e w1 ⟨rfl, hb1⟩
    go_wp2_with fail
    refine (A2.out w1 hb1).mono ?_
    rintro e w2 ⟨rfl, hb2⟩
    go_wp2_with fail
    refine (A3.out w2).mono ?_
    rintro e w3 ⟨rfl, hb3⟩
    go_wp2_with fail
    refine (A4.out w3).mono ?_
    rintro e w4 ⟨rfl, hb4⟩
    go_wp2_with fail
    refine (A5.out w4).mono ?_
    rintro e w5 ⟨rfl, rfl⟩
    go_wp2
    go_ret
    exact ⟨ret_bool (by simp), below_seq (below_seq (below_seq hb1 hb2) hb3) hb4⟩
theorem own : ownKnob Tryd.prog.godebug = none := by kernel_rfl
set_option maxRecDepth 100000 in
theorem contract (H : Type) (enc : TypeId × Value → H) (W : World) (base : Nat) (args : Array Value) (ds gs : List (DataW H)) (before : List MemPlace)
    (hval : ∀ (j : Nat) t v, Tryd.f8.params[j]? = some t → args[j]? = some v → Value.okWide Tryd.prog W .any base t v)
    (hW : DataW.Whole enc Tryd.prog Tryd.f8.params.toList Rows.datePrintsSpec.vars false W args.toList ds gs before) (_hL : laidMetH Tryd.prog Rows.datePrintsRow.laid W) (_hsh : W.ShapedOpen Tryd.prog) :
    Calls Tryd.prog 8 args W fun e W' => ∃ v, e = .returned v ∧ Rows.datePrintsSpec.post enc Tryd.prog Tryd.f8 false true false false W args v W' := by
  have hW' := hW
  obtain ⟨p, q, hA0, hV, rfl, hfz, hnd⟩ := hW
  have hA : DataW.TrodAll enc Tryd.prog W 0 (fun _ => true) true Tryd.f8.params.toList args.toList ds p := hA0
  rw [Tryd.params8] at hA hval
  obtain ⟨v0, d0, rfl, rfl, g0⟩ := trodAll_one hA
  obtain ⟨rfl, rfl⟩ := trodVars_none hV
  obtain ⟨x0, rfl, rfl, rfl, h0⟩ := open_int Tryd.underlying2 (hval 0 2 v0 rfl rfl) g0
  clear hA0
  simp only [List.append_nil] at hW'
  have ht : Lib.TabIs Tryd.prog W "internal/strconv.uint64pow10" .u64 Lib.pow10Tab := tab_met _hL (by kernel_rfl)
  refine (law x0 (by have h := h0; simp only [Lit.wf, Bool.and_eq_true, decide_eq_true_eq] at h; exact h) W ht).mono fun e W' ⟨he, hb⟩ => ?_
  subst he
  exact ⟨_, rfl, post_of_below (pa := []) (pv := []) hW' (fun _ _ _ => trodAll_mk1 (shut_bool Tryd.underlying4 _)) (fun _ _ => trodAll_mk1 (shut_int Tryd.underlying2 h0)) (fun _ _ => rfl) rfl
    hb (ok_one (by kernel_rfl) rfl (okWide_bool_mk Tryd.underlying4 _))⟩
set_option maxRecDepth 100000 in
theorem reads (os : Os) {H : Type} (enc : TypeId × Value → H) : ∃ places, DataW.whole enc Tryd.prog ((World.laidAll Tryd.prog os Rows.datePrintsRow.laid).forCall (fun _ _ => 0) ⟨#[], #[.int .i64 0], []⟩).memory Tryd.f8.params.toList Rows.datePrintsSpec.vars false #[Value.int .i64 0].toList 8 = some ([.lit (.int .i64 0)], [], places) :=
  ⟨[], by kernel_rfl⟩
set_option maxRecDepth 100000 in
theorem lifted (os : Os) (started : os.Started) (H : Type) (enc : TypeId × Value → H) (F : Stop.Interp) :
    ReturnsInHanded {} Tryd.checked os 8 .any ((OpenSpec.ofChange Rows.datePrintsSpec).preRow enc Tryd.prog Tryd.f8 Rows.datePrintsRow.domain false Rows.datePrintsRow.laid) (((OpenSpec.ofChange Rows.datePrintsSpec).at F).post enc Tryd.prog Tryd.f8 false true false false) := by
  obtain ⟨places, hx⟩ := reads os enc
  refine returnsInHanded_of_row (C := Tryd.checked) (s := OpenSpec.ofChange Rows.datePrintsSpec) own started (by kernel_rfl) Tryd.func8
    (witness_row_shaped (enc := enc) (C := Tryd.checked) false (World.laidAll Tryd.prog os Rows.datePrintsRow.laid) #[.int .i64 0] (World.laidAll_os _ _ _) (World.shaped_of_ZipB (by kernel_rfl) (by kernel_rfl)) (by kernel_rfl)
      (OpenSpec.preRow_of_cond 8 hx (by kernel_rfl) (fun k hk => by cases hk) (by kernel_rfl) (laidMet_laidAll _ (by kernel_rfl) (by kernel_rfl)))) ?_
  intro W base args ds gs before hval hW _ _ _ hL hsh _
  exact contract H enc W base args ds gs before hval hW hL hsh
theorem said : Rows.DatePrintsSaid :=
  OpenClaim.holds_of_cond 8 Tryd.f8 rfl rfl rfl rfl rfl rfl rfl ⟨rfl, rfl, rfl, rfl, rfl⟩ rfl rfl rfl rfl rfl (by kernel_rfl) Tryd.func8 (by kernel_rfl)
    (of_decide_eq_true (by kernel_rfl)) (by unfold Func.isWrapper; first | (rw [if_pos (by decide +kernel)]; kernel_rfl) | (rw [if_neg (by decide +kernel)]; exact ⟨rfl, rfl⟩))
    (fun os started H enc _ F => by rw [OpenClaim.pre_eq_preRow]; exact lifted os started H enc F)
theorem plain (f : FuncId) (fn : Func) (hf : Tryd.pinned.checked.prog.funcNamed "cubby/cubbylaw07.DatePrints" = some f) (hfn : Tryd.pinned.checked.prog.funcs[f]? = some fn) :
    true = Tryd.pinned.checked.prog.looks [] ∧ ∀ (j : Nat) t, fn.params[j]? = some t → Tryd.pinned.checked.prog.wantsStandIn t = false := by
  obtain rfl : f = 8 := Option.some.inj ((show Tryd.prog.funcNamed "cubby/cubbylaw07.DatePrints" = some 8 by kernel_rfl).symm.trans hf) |>.symm
  obtain rfl : fn = Tryd.f8 := (Option.some.inj (Tryd.func8.symm.trans hfn)).symm
  refine ⟨by kernel_rfl, fun j t ht => ?_⟩
  rw [Tryd.params8] at ht
  have hm : t ∈ [2] := by simpa using Array.mem_of_getElem? ht
  have hall : ([2].all fun u => !Tryd.prog.wantsStandIn u) = true := by kernel_rfl
  exact (show Tryd.prog.wantsStandIn t = false by simpa using List.all_eq_true.1 hall t hm)
theorem holds : Rows.DatePrintsCardSaid :=
  Claim7.holds_tied_plain_at .later [] _ _ _ _ said (fun _ h => by cases h) (by kernel_rfl) (fun _ h => by cases h) datePrints_row_tie rfl ⟨rfl, rfl⟩ (by kernel_rfl) rfl plain (by kernel_rfl)
#print axioms holds
end Go.Proofs.YtfnckkmnncdelaaDoor.DatePrints
