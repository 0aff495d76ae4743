/-
  A text whose zone is ahead tells a time that is just so much earlier: cubbylaw07.DateZones answers true, for every time, zone and side.
-/
import Derived.Test.YtfnckkmnncdelaaDoorCards
import Derived.Test.YtfnckkmnncdelaaDoorTie
import Derived.Test.YtfnckkmnncdelaaDoorDateAwake
import Derived.Test.YtfnckkmnncdelaaDoorDateParse
import Derived.Test.YtfnckkmnncdelaaDoorDateBack2
import Derived.Deep.RegionHeld3
import Derived.Deep.DrawnRows
import Derived.SevenTiedAt
namespace Go.Proofs.YtfnckkmnncdelaaDoor
open Go.RowKit
theorem below_alloc_drew {B : Nat} {a w : World} (h : Below B a w) (hB : B ≤ w.heap.size) (o : Obj) : Below B a (w.alloc o).drew := by
  have h1 := h.alloc hB o
  exact ⟨h1.os, h1.tape, h1.output, h1.size, h1.block⟩
def B0 (t : Int) : ByteArray := (printV t).extract 0 21
theorem conv_four (h m : Nat) (hh : h ≤ 14) (hm : m ≤ 59) (w : World) :
    (convert 31 9 (.slice (some ⟨w.heap.size, 0, none⟩) 4 4)).run Tryd.prog ((w.alloc (.cells #[.int .u8 (48 + (h : Int) / 10), .int .u8 (48 + (h : Int) % 10), .int .u8 (48 + (m : Int) / 10), .int .u8 (48 + (m : Int) % 10)] 5)).drew) =
      .ok (.string ⟨#[dg (h / 10), dg (h % 10), dg (m / 10), dg (m % 10)]⟩) ((w.alloc (.cells #[.int .u8 (48 + (h : Int) / 10), .int .u8 (48 + (h : Int) % 10), .int .u8 (48 + (m : Int) / 10), .int .u8 (48 + (m : Int) % 10)] 5)).drew) := by
  refine run_string_bytes (P := Tryd.prog) _ _ _ 5 ⟨w.heap.size, 0, none⟩ [dg (h / 10), dg (h % 10), dg (m / 10), dg (m % 10)] 4 Tryd.underlying31 Tryd.underlying5 Tryd.underlying9 ?_
  have hc := ((Blk.new w 5 #[.int .u8 (48 + (h : Int) / 10), .int .u8 (48 + (h : Int) % 10), .int .u8 (48 + (m : Int) / 10), .int .u8 (48 + (m : Int) % 10)]).drew).cell
  have d : ∀ x : Nat, x ≤ 9 → (((dg x).toNat : Nat) : Int) = 48 + (x : Int) := fun x hx => by rw [dg_nat x hx]; omega
  intro j b hb
  match j, hb with
  | 0, hb => simp at hb; subst hb; refine (hc 0).trans ?_; rw [d _ (by omega)]; rfl
  | 1, hb => simp at hb; subst hb; refine (hc 1).trans ?_; rw [d _ (by omega)]; rfl
  | 2, hb => simp at hb; subst hb; refine (hc 2).trans ?_; rw [d _ (by omega)]; rfl
  | 3, hb => simp at hb; subst hb; refine (hc 3).trans ?_; rw [d _ (by omega)]; rfl
  | j + 4, hb => simp at hb
end Go.Proofs.YtfnckkmnncdelaaDoor
namespace Go.Proofs.YtfnckkmnncdelaaDoor.DateZones
open Go.RowKit Go.ChangeShapes Go.WideShapes Go.ChangeAt
open Go.ChangeMaps (open_string shut_string)
set_option maxRecDepth 100000 in
set_option maxHeartbeats 4000000 in
theorem law (t x y : Int) (b : Bool) (ht : -9223372036854775808 ≤ t ∧ t ≤ 9223372036854775807) (hx : 0 ≤ x ∧ x ≤ 255) (hy : 0 ≤ y ∧ y ≤ 255) (w : World) (htab : Lib.TabIs Tryd.prog w "internal/strconv.uint64pow10" .u64 Lib.pow10Tab) :
    Calls Tryd.prog 7 #[.int .i64 t, .int .u8 x, .int .u8 y, .bool b] w fun e w' => e = .returned (.bool true) ∧ Below w.heap.size w w' := by
  obtain ⟨hl, hh⟩ := ht
  have A1 := Lib.hid (awake07 w htab)
  by_cases hr : t < 1000000 ∨ 253000000000 < t
  · have A2 := Lib.hid (fun w1 (hb : Below w.heap.size w w1) => awake07 w1 (Lib.tabBelow_of_tabIs htab w1 hb))
    clear htab
    go_enter Tryd.func7, Tryd.ntmps7
    go_wp2_with fail
    refine A1.out.mono ?_
    rintro e w1 ⟨rfl, hb1⟩
    go_wp2_with fail
    all_goals
      refine (A2.out w1 hb1).mono ?_
      rintro e w2 ⟨rfl, hb2⟩
      go_wp2
      go_ret
      exact ⟨rfl, below_seq hb1 hb2⟩
  · have A2 := Lib.hid (fun w1 (hb : Below w.heap.size w w1) => print_any t w1 hl hh (Lib.tabBelow_of_tabIs htab w1 hb))
    clear htab
    obtain ⟨t0, t1⟩ : 1000000 ≤ t ∧ t ≤ 253000000000 := by omega
    clear hr
    have hsz := (print_in t (by omega) (by omega)).1
    obtain ⟨h, hh1⟩ : ∃ h : Nat, x % 15 = (h : Int) := ⟨(x % 15).toNat, by omega⟩
    obtain ⟨m, hm1⟩ : ∃ m : Nat, y % 60 = (m : Int) := ⟨(y % 60).toNat, by omega⟩
    have hh2 : h ≤ 14 := by omega
    have hm2 : m ≤ 59 := by omega
    have hcv := fun W : World => conv_four h m hh2 hm2 W
    cases b
    · have hz : parseV (B0 t ++ (⟨#[43]⟩ : ByteArray) ++ (⟨#[dg (h / 10), dg (h % 10), dg (m / 10), dg (m % 10)]⟩ : ByteArray)) = (t + -((h : Int) * 3600 + (m : Int) * 60), true) := by
        unfold B0
        rw [zone_back t (by omega) (by omega) 43 (.inl rfl) (h / 10) (h % 10) (m / 10) (m % 10) (by omega) (by omega) (by omega) (by omega) (by omega) (by omega)]
        have e : (((43 : UInt8).toNat : Int) == 45) = false := by decide
        rw [e]
        simp only [Bool.false_eq_true, if_false]
        rw [if_neg (by omega)]
        congr 1
        omega
      unfold B0 at hz
      generalize printV t = B at *
      have Hz := Lib.hid hz; clear hz
      have hszT : (B.extract 0 21 ++ (⟨#[43]⟩ : ByteArray) ++ (⟨#[dg (h / 10), dg (h % 10), dg (m / 10), dg (m % 10)]⟩ : ByteArray)).size ≤ 1000 := by
        have e1 : (⟨#[43]⟩ : ByteArray).size = 1 := rfl
        have e2 : (⟨#[dg (h / 10), dg (h % 10), dg (m / 10), dg (m % 10)]⟩ : ByteArray).size = 4 := rfl
        simp [e1, e2]; omega
      go_enter Tryd.func7, Tryd.ntmps7
      go_wp2_with fail
      refine A1.out.mono ?_
      rintro e w1 ⟨rfl, hb1⟩
      go_wp2_with fail
      refine (A2.out w1 hb1).mono ?_
      rintro e w2 ⟨rfl, hb2⟩
      go_wp2
      go_region
      go_wp2_with fail
      refine (parse_any _ hszT _).mono ?_
      rintro e w3 ⟨rfl, hb3⟩
      rw [Hz.out]
      clear hcv
      go_wp2
      go_ret
      exact ⟨ret_bool (by simp), below_seq (below_seq hb1 (below_alloc_drew hb2 hb2.size _)) hb3⟩
    · have hz : parseV (B0 t ++ (⟨#[45]⟩ : ByteArray) ++ (⟨#[dg (h / 10), dg (h % 10), dg (m / 10), dg (m % 10)]⟩ : ByteArray)) = (t + ((h : Int) * 3600 + (m : Int) * 60), true) := by
        unfold B0
        rw [zone_back t (by omega) (by omega) 45 (.inr rfl) (h / 10) (h % 10) (m / 10) (m % 10) (by omega) (by omega) (by omega) (by omega) (by omega) (by omega)]
        have e : (((45 : UInt8).toNat : Int) == 45) = true := by decide
        rw [e]
        simp only [if_true]
        rw [if_neg (by omega)]
        congr 1
        omega
      unfold B0 at hz
      generalize printV t = B at *
      have Hz := Lib.hid hz; clear hz
      have hszT : (B.extract 0 21 ++ (⟨#[45]⟩ : ByteArray) ++ (⟨#[dg (h / 10), dg (h % 10), dg (m / 10), dg (m % 10)]⟩ : ByteArray)).size ≤ 1000 := by
        have e1 : (⟨#[45]⟩ : ByteArray).size = 1 := rfl
        have e2 : (⟨#[dg (h / 10), dg (h % 10), dg (m / 10), dg (m % 10)]⟩ : ByteArray).size = 4 := rfl
        simp [e1, e2]; omega
      go_enter Tryd.func7, Tryd.ntmps7
      go_wp2_with fail
      refine A1.out.mono ?_
      rintro e w1 ⟨rfl, hb1⟩
      go_wp2_with fail
      refine (A2.out w1 hb1).mono ?_
      rintro e w2 ⟨rfl, hb2⟩
      go_wp2
      go_region
      go_wp2_with fail
      refine (parse_any _ hszT _).mono ?_
      rintro e w3 ⟨rfl, hb3⟩
      rw [Hz.out]
      clear hcv
      go_wp2
      go_ret
      exact ⟨ret_bool (by simp), below_seq (below_seq hb1 (below_alloc_drew hb2 hb2.size _)) hb3⟩
theorem own : ownKnob Tryd.prog.godebug = none := by kernel_rfl
set_option maxRecDepth 100000 in
theorem contract (H : Type) (enc : TypeId × Value → H) (W : World) (base : Nat) (args : Array Value) (ds gs : List (DataW H)) (before : List MemPlace)
    (hval : ∀ (j : Nat) t v, Tryd.f7.params[j]? = some t → args[j]? = some v → Value.okWide Tryd.prog W .any base t v)
    (hW : DataW.Whole enc Tryd.prog Tryd.f7.params.toList Rows.dateZonesSpec.vars false W args.toList ds gs before) (_hL : laidMetH Tryd.prog Rows.dateZonesRow.laid W) (_hsh : W.ShapedOpen Tryd.prog) :
    Calls Tryd.prog 7 args W fun e W' => ∃ v, e = .returned v ∧ Rows.dateZonesSpec.post enc Tryd.prog Tryd.f7 false true false false W args v W' := by
  have hW' := hW
  obtain ⟨p, q, hA0, hV, rfl, hfz, hnd⟩ := hW
  have hA : DataW.TrodAll enc Tryd.prog W 0 (fun _ => true) true Tryd.f7.params.toList args.toList ds p := hA0
  rw [Tryd.params7] at hA hval
  obtain ⟨v0, v1, v2, v3, d0, d1, d2, d3, p0, p1, p2, p3, rfl, rfl, rfl, g0, g1, g2, g3⟩ := trodAll_four hA
  obtain ⟨rfl, rfl⟩ := trodVars_none hV
  obtain ⟨x0, rfl, rfl, rfl, h0⟩ := open_int Tryd.underlying2 (hval 0 2 v0 rfl rfl) g0
  obtain ⟨x1, rfl, rfl, rfl, h1⟩ := open_int Tryd.underlying5 (hval 1 5 v1 rfl rfl) g1
  obtain ⟨x2, rfl, rfl, rfl, h2⟩ := open_int Tryd.underlying5 (hval 2 5 v2 rfl rfl) g2
  obtain ⟨x3, rfl, rfl, rfl⟩ := open_bool Tryd.underlying4 (hval 3 4 v3 rfl rfl) g3
  clear hA0
  simp only [List.append_nil] at hW'
  have ht : Lib.TabIs Tryd.prog W "internal/strconv.uint64pow10" .u64 Lib.pow10Tab := tab_met _hL (by kernel_rfl)
  refine (law x0 x1 x2 x3 (by have h := h0; simp only [Lit.wf, Bool.and_eq_true, decide_eq_true_eq] at h; exact h) (by have h := h1; simp only [Lit.wf, Bool.and_eq_true, decide_eq_true_eq] at h; exact h) (by have h := h2; simp only [Lit.wf, Bool.and_eq_true, decide_eq_true_eq] at h; exact h) W ht).mono fun e W' ⟨he, hb⟩ => ?_
  subst he
  exact ⟨_, rfl, post_of_below (pa := []) (pv := []) hW' (fun _ _ _ => trodAll_mk1 (shut_bool Tryd.underlying4 _)) (fun _ _ => trodAll_mk4 (shut_int Tryd.underlying2 h0) (shut_int Tryd.underlying5 h1) (shut_int Tryd.underlying5 h2) (shut_bool Tryd.underlying4 x3)) (fun _ _ => rfl) rfl
    hb (ok_one (by kernel_rfl) rfl (okWide_bool_mk Tryd.underlying4 _))⟩
set_option maxRecDepth 100000 in
theorem reads (os : Os) {H : Type} (enc : TypeId × Value → H) : ∃ places, DataW.whole enc Tryd.prog ((World.laidAll Tryd.prog os Rows.dateZonesRow.laid).forCall (fun _ _ => 0) ⟨#[], #[.int .i64 0, .int .u8 0, .int .u8 0, .bool false], []⟩).memory Tryd.f7.params.toList Rows.dateZonesSpec.vars false #[Value.int .i64 0, Value.int .u8 0, Value.int .u8 0, Value.bool false].toList 8 = some ([.lit (.int .i64 0), .lit (.int .u8 0), .lit (.int .u8 0), .lit (.bool false)], [], places) :=
  ⟨[], by kernel_rfl⟩
set_option maxRecDepth 100000 in
theorem lifted (os : Os) (started : os.Started) (H : Type) (enc : TypeId × Value → H) (F : Stop.Interp) :
    ReturnsInHanded {} Tryd.checked os 7 .any ((OpenSpec.ofChange Rows.dateZonesSpec).preRow enc Tryd.prog Tryd.f7 Rows.dateZonesRow.domain false Rows.dateZonesRow.laid) (((OpenSpec.ofChange Rows.dateZonesSpec).at F).post enc Tryd.prog Tryd.f7 false true false false) := by
  obtain ⟨places, hx⟩ := reads os enc
  refine returnsInHanded_of_row (C := Tryd.checked) (s := OpenSpec.ofChange Rows.dateZonesSpec) own started (by kernel_rfl) Tryd.func7
    (witness_row_shaped (enc := enc) (C := Tryd.checked) false (World.laidAll Tryd.prog os Rows.dateZonesRow.laid) #[.int .i64 0, .int .u8 0, .int .u8 0, .bool false] (World.laidAll_os _ _ _) (World.shaped_of_ZipB (by kernel_rfl) (by kernel_rfl)) (by kernel_rfl)
      (OpenSpec.preRow_of_cond 8 hx (by kernel_rfl) (fun k hk => by cases hk) (by kernel_rfl) (laidMet_laidAll _ (by kernel_rfl) (by kernel_rfl)))) ?_
  intro W base args ds gs before hval hW _ _ _ hL hsh _
  exact contract H enc W base args ds gs before hval hW hL hsh
theorem said : Rows.DateZonesSaid :=
  OpenClaim.holds_of_cond 7 Tryd.f7 rfl rfl rfl rfl rfl rfl rfl ⟨rfl, rfl, rfl, rfl, rfl⟩ rfl rfl rfl rfl rfl (by kernel_rfl) Tryd.func7 (by kernel_rfl)
    (of_decide_eq_true (by kernel_rfl)) (by unfold Func.isWrapper; first | (rw [if_pos (by decide +kernel)]; kernel_rfl) | (rw [if_neg (by decide +kernel)]; exact ⟨rfl, rfl⟩))
    (fun os started H enc _ F => by rw [OpenClaim.pre_eq_preRow]; exact lifted os started H enc F)
theorem plain (f : FuncId) (fn : Func) (hf : Tryd.pinned.checked.prog.funcNamed "cubby/cubbylaw07.DateZones" = some f) (hfn : Tryd.pinned.checked.prog.funcs[f]? = some fn) :
    true = Tryd.pinned.checked.prog.looks [] ∧ ∀ (j : Nat) t, fn.params[j]? = some t → Tryd.pinned.checked.prog.wantsStandIn t = false := by
  obtain rfl : f = 7 := Option.some.inj ((show Tryd.prog.funcNamed "cubby/cubbylaw07.DateZones" = some 7 by kernel_rfl).symm.trans hf) |>.symm
  obtain rfl : fn = Tryd.f7 := (Option.some.inj (Tryd.func7.symm.trans hfn)).symm
  refine ⟨by kernel_rfl, fun j t ht => ?_⟩
  rw [Tryd.params7] at ht
  have hm : t ∈ [2, 5, 5, 4] := by simpa using Array.mem_of_getElem? ht
  have hall : ([2, 5, 5, 4].all fun u => !Tryd.prog.wantsStandIn u) = true := by kernel_rfl
  exact (show Tryd.prog.wantsStandIn t = false by simpa using List.all_eq_true.1 hall t hm)
theorem holds : Rows.DateZonesCardSaid :=
  Claim7.holds_tied_plain_at .later [] _ _ _ _ said (fun _ h => by cases h) (by kernel_rfl) (fun _ h => by cases h) dateZones_row_tie rfl ⟨rfl, rfl⟩ (by kernel_rfl) rfl plain (by kernel_rfl)
#print axioms holds
end Go.Proofs.YtfnckkmnncdelaaDoor.DateZones
