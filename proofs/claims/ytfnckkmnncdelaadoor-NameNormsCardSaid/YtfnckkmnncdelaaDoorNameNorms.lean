/-
  Any text is the name that the document says, or none; what stands ahead of its last part too: cubbylaw06.NameNorms answers true, for every text.
-/
import Derived.Test.YtfnckkmnncdelaaDoorCards
import Derived.Test.YtfnckkmnncdelaaDoorTie
import Derived.Test.YtfnckkmnncdelaaDoorRefNorm
import Derived.Test.YtfnckkmnncdelaaDoorUp
import Derived.Test.YtfnckkmnncdelaaDoorNameAwake
import Derived.SevenTiedAt
namespace Go.Proofs.YtfnckkmnncdelaaDoor
theorem scan_ok : ∀ l : List UInt8, nameScan true l = nameOK l ∧ nameScan false l = (match splitC 47 l with | [] => true | p :: ps => p.all plainB && ps.all okPartL)
  | [] => by constructor <;> rfl
  | c :: l => by
    obtain ⟨ih1, ih2⟩ := scan_ok l
    unfold nameOK at ih1 ⊢
    by_cases h : c = 47
    · subst h
      rw [scan_slash _ _ _ rfl, scan_slash _ _ _ rfl]
      have e : splitC 47 (47 :: l) = [] :: splitC 47 l := by rw [splitC]; simp
      rw [e]
      exact ⟨rfl, by simp [ih1]⟩
    · rw [scan_other _ _ _ h, scan_other _ _ _ h, ih2]
      have e : splitC 47 (c :: l) = (match splitC 47 l with | [] => [[c]] | p :: ps => (c :: p) :: ps) := by rw [splitC, if_neg h]; cases splitC 47 l <;> rfl
      rw [e]
      cases splitC 47 l with
      | nil => simp [okPartL]
      | cons p ps => simp [okPartL, Bool.and_assoc]
theorem byte_all (P : UInt8 → Bool) (h : (List.range 256).all (fun n => P (UInt8.ofNat n)) = true) (c : UInt8) : P c = true := by
  have := List.all_eq_true.1 h c.toNat (by simp; exact c.toNat_lt)
  simpa using this
theorem upper_small (c : UInt8) : (((Lib.upperB c == 73) == (smallB c == 105)) && ((Lib.upperB c == 78) == (smallB c == 110)) && ((Lib.upperB c == 66) == (smallB c == 98)) && ((Lib.upperB c == 79) == (smallB c == 111)) && ((Lib.upperB c == 88) == (smallB c == 120))) = true :=
  byte_all (fun c => ((Lib.upperB c == 73) == (smallB c == 105)) && ((Lib.upperB c == 78) == (smallB c == 110)) && ((Lib.upperB c == 66) == (smallB c == 98)) && ((Lib.upperB c == 79) == (smallB c == 111)) && ((Lib.upperB c == 88) == (smallB c == 120))) (by decide +kernel) c
theorem inbox_same (l : List UInt8) : (Lib.toUpperA l == [73, 78, 66, 79, 88]) = alikeL l [105, 110, 98, 111, 120] := by
  unfold Lib.toUpperA alikeL
  match l with
  | [] => rfl
  | [a] => simp
  | [a, b] => simp
  | [a, b, c] => simp
  | [a, b, c, d] => simp
  | a :: b :: c :: d :: e :: f :: l => simp
  | [a, b, c, d, e] =>
    have ha := upper_small a
    have hb := upper_small b
    have hc := upper_small c
    have hd := upper_small d
    have he := upper_small e
    simp only [Bool.and_eq_true, beq_iff_eq] at ha hb hc hd he
    have k1 : smallB 105 = 105 := by decide
    have k2 : smallB 110 = 110 := by decide
    have k3 : smallB 98 = 98 := by decide
    have k4 : smallB 111 = 111 := by decide
    have k5 : smallB 120 = 120 := by decide
    simp only [List.map_cons, List.map_nil, k1, k2, k3, k4, k5, List.cons_beq_cons]
    rw [ha.1.1.1.1, hb.1.1.1.2, hc.1.1.2, hd.1.2, he.2]
    rfl
theorem norm_same (s : ByteArray) : normV s = refNormV s := by
  unfold normV refNormV
  rw [(scan_ok _).1, inbox_same]
  by_cases h : 60 < s.size
  · rw [if_pos h, show decide (s.size ≤ 60) = false from by simp; omega]; simp
  · rw [if_neg h, show decide (s.size ≤ 60) = true from by simp; omega]; simp
theorem norm_again (s : ByteArray) (h : (normV s).2 = true) : normV (normV s).1 = ((normV s).1, true) := by
  unfold normV at h ⊢
  by_cases h1 : 60 < s.size
  · rw [if_pos h1] at h; cases h
  · rw [if_neg h1] at h ⊢
    by_cases h2 : nameOK s.data.toList = true
    · rw [if_pos h2] at h ⊢
      by_cases h3 : (Lib.toUpperA s.data.toList == [73, 78, 66, 79, 88]) = true
      · rw [if_pos h3]
        decide +kernel
      · rw [if_neg h3]
        show (if 60 < s.size then _ else _) = _
        rw [if_neg h1, if_pos h2, if_neg h3]
    · rw [if_neg h2] at h; cases h
theorem normV_size (s : ByteArray) : (normV s).1.size ≤ 60 := by
  unfold normV
  split
  · decide
  · split
    · split
      · decide
      · simp; omega
    · decide
end Go.Proofs.YtfnckkmnncdelaaDoor
namespace Go.Proofs.YtfnckkmnncdelaaDoor.NameNorms
open Go.RowKit Go.ChangeShapes Go.WideShapes Go.ChangeAt
open Go.ChangeMaps (open_string shut_string)
set_option maxHeartbeats 1000000 in
theorem law (s : ByteArray) (hs : s.size ≤ 9223372036854775807) (m : Int) (w : World) (hm : w.cell? ⟨0, 0, none⟩ = some (.int .i64 m)) (hg : 0 < w.heap.size) :
    Calls Tryd.prog 5 #[.string s] w fun e w' => e = .returned (.bool true) ∧ Below w.heap.size w w' := by
  have a1 := awake06 m w hm
  have a2 : ∀ w1, Below w.heap.size w w1 → Calls Tryd.prog 12 #[] w1 fun e w' => e = .returned (.bool true) ∧ Below w1.heap.size w1 w' := fun w1 hb => awake06 m w1 ((hb.cell (p := ⟨0, 0, none⟩) hg).trans hm)
  have n2 : ∀ (t : ByteArray) w1, t.size ≤ 9223372036854775807 → Below w.heap.size w w1 → Calls Tryd.prog 15 #[.string t] w1 fun e w' => e = .returned (.tuple #[.string (normV t).1, .bool (normV t).2]) ∧ Below w1.heap.size w1 w' := fun t w1 ht hb => norm_all t m w1 ht ((hb.cell (p := ⟨0, 0, none⟩) hg).trans hm)
  have A1 := Lib.hid a1; clear a1
  have A2 := Lib.hid a2; clear a2
  have N2 := Lib.hid n2; clear n2 hm
  by_cases h1 : 1000 < s.size
  · go_enter Tryd.func5, Tryd.ntmps5
    go_wp2_with fail
    refine A1.out.mono ?_
    rintro e w1 ⟨rfl, hb1⟩
    go_wp2_with fail
    refine (A2.out w1 hb1).mono ?_
    rintro e w2 ⟨rfl, hb2⟩
    go_wp2
    go_ret
    exact ⟨rfl, hb1.trans (hb2.mono hb1.size)⟩
  · have hag := norm_again s
    have hsz := normV_size s
    have hsm := norm_same s
    rcases hv : normV s with ⟨n, ok⟩
    rw [hv] at hag hsz
    have hr : refNormV s = (n, ok) := by rw [← hsm, hv]
    have Hv := Lib.hid hv; clear hv
    have Hr := Lib.hid hr; clear hr hsm
    have Hag := Lib.hid hag; clear hag
    go_enter Tryd.func5, Tryd.ntmps5
    go_wp2_with fail
    refine A1.out.mono ?_
    rintro e w1 ⟨rfl, hb1⟩
    go_wp2_with fail
    refine (N2.out s w1 (by omega) hb1).mono ?_
    rintro e w2 ⟨rfl, hb2⟩
    have hb2' := hb1.trans (hb2.mono hb1.size)
    rw [Hv.out]
    go_wp2_with fail
    refine (refNorm_any s (by omega) w2).mono ?_
    rintro e w3 ⟨rfl, k3, hw3⟩
    have hb3 : Below w.heap.size w w3 := by rw [hw3]; exact below_drewN hb2' _
    clear hw3
    rw [Hr.out]
    cases ok with
    | true =>
      go_wp2_with fail
      refine (N2.out n w3 (by omega) hb3).mono ?_
      rintro e w4 ⟨rfl, hb4⟩
      have hb4' := hb3.trans (hb4.mono hb3.size)
      rw [Hag.out trivial]
      go_wp2_with fail
      refine (up_any s (by omega) w4).mono ?_
      rintro e w5 ⟨rfl, rfl⟩
      go_wp2_with fail
      refine (refUp_any s (by omega) w5).mono ?_
      rintro e w6 ⟨rfl, rfl⟩
      go_wp2
      go_ret
      exact ⟨by simp, hb4'⟩
    | false =>
      go_wp2_with fail
      refine (up_any s (by omega) w3).mono ?_
      rintro e w5 ⟨rfl, rfl⟩
      go_wp2_with fail
      refine (refUp_any s (by omega) w5).mono ?_
      rintro e w6 ⟨rfl, rfl⟩
      go_wp2
      go_ret
      exact ⟨by simp, hb3⟩
theorem own : ownKnob Tryd.prog.godebug = none := by kernel_rfl
set_option maxRecDepth 100000 in
theorem contract (H : Type) (enc : TypeId × Value → H) (W : World) (base : Nat) (args : Array Value) (ds gs : List (DataW H)) (before : List MemPlace)
    (hval : ∀ (j : Nat) t v, Tryd.f5.params[j]? = some t → args[j]? = some v → Value.okWide Tryd.prog W .any base t v)
    (hW : DataW.Whole enc Tryd.prog Tryd.f5.params.toList Rows.nameNormsSpec.vars false W args.toList ds gs before) (_hL : laidMetH Tryd.prog Rows.nameNormsRow.laid W) (hsh : W.ShapedOpen Tryd.prog) :
    Calls Tryd.prog 5 args W fun e W' => ∃ v, e = .returned v ∧ Rows.nameNormsSpec.post enc Tryd.prog Tryd.f5 false true false false W args v W' := by
  have hW' := hW
  obtain ⟨p, q, hA0, hV, rfl, hfz, hnd⟩ := hW
  have hA : DataW.TrodAll enc Tryd.prog W 0 (fun _ => true) true Tryd.f5.params.toList args.toList ds p := hA0
  rw [Tryd.params5] at hA hval
  obtain ⟨v0, d0, rfl, rfl, g0⟩ := trodAll_one hA
  obtain ⟨rfl, rfl⟩ := trodVars_none hV
  obtain ⟨x0, rfl, rfl, rfl, h0⟩ := open_string Tryd.underlying9 (hval 0 9 v0 rfl rfl) g0
  clear hA0
  simp only [List.append_nil] at hW'
  obtain ⟨m, hm⟩ := Tryd.laysM146.s1_3 W hsh
  refine (law x0 h0 m W hm (block_lt_of_cell hm)).mono fun e W' ⟨he, hb⟩ => ?_
  subst he
  exact ⟨_, rfl, post_of_below (pa := []) (pv := []) hW' (fun _ _ _ => trodAll_mk1 (shut_bool Tryd.underlying4 _)) (fun _ _ => trodAll_mk1 (shut_string Tryd.underlying9 h0)) (fun _ _ => rfl) rfl
    hb (ok_one (by kernel_rfl) rfl (okWide_bool_mk Tryd.underlying4 _))⟩
set_option maxRecDepth 100000 in
theorem reads (os : Os) {H : Type} (enc : TypeId × Value → H) : ∃ places, DataW.whole enc Tryd.prog ((World.laidAll Tryd.prog os Rows.nameNormsRow.laid).forCall (fun _ _ => 0) ⟨#[], #[.string ⟨#[]⟩], []⟩).memory Tryd.f5.params.toList Rows.nameNormsSpec.vars false #[Value.string ⟨#[]⟩].toList 8 = some ([.lit (.string [])], [], places) :=
  ⟨[], by kernel_rfl⟩
set_option maxRecDepth 100000 in
theorem lifted (os : Os) (started : os.Started) (H : Type) (enc : TypeId × Value → H) (F : Stop.Interp) :
    ReturnsInHanded {} Tryd.checked os 5 .any ((OpenSpec.ofChange Rows.nameNormsSpec).preRow enc Tryd.prog Tryd.f5 Rows.nameNormsRow.domain false Rows.nameNormsRow.laid) (((OpenSpec.ofChange Rows.nameNormsSpec).at F).post enc Tryd.prog Tryd.f5 false true false false) := by
  obtain ⟨places, hx⟩ := reads os enc
  refine returnsInHanded_of_row (C := Tryd.checked) (s := OpenSpec.ofChange Rows.nameNormsSpec) own started (by kernel_rfl) Tryd.func5
    (witness_row_shaped (enc := enc) (C := Tryd.checked) false (World.laidAll Tryd.prog os Rows.nameNormsRow.laid) #[.string ⟨#[]⟩] (World.laidAll_os _ _ _) (World.shaped_of_ZipB (by kernel_rfl) (by kernel_rfl)) (by kernel_rfl)
      (OpenSpec.preRow_of_cond 8 hx (by kernel_rfl) (fun k hk => by cases hk) (by kernel_rfl) (laidMet_laidAll _ (by kernel_rfl) (by kernel_rfl)))) ?_
  intro W base args ds gs before hval hW _ _ _ hL hsh _
  exact contract H enc W base args ds gs before hval hW hL hsh
theorem said : Rows.NameNormsSaid :=
  OpenClaim.holds_of_cond 5 Tryd.f5 rfl rfl rfl rfl rfl rfl rfl ⟨rfl, rfl, rfl, rfl, rfl⟩ rfl rfl rfl rfl rfl (by kernel_rfl) Tryd.func5 (by kernel_rfl)
    (of_decide_eq_true (by kernel_rfl)) (by unfold Func.isWrapper; first | (rw [if_pos (by decide +kernel)]; kernel_rfl) | (rw [if_neg (by decide +kernel)]; exact ⟨rfl, rfl⟩))
    (fun os started H enc _ F => by rw [OpenClaim.pre_eq_preRow]; exact lifted os started H enc F)
theorem plain (f : FuncId) (fn : Func) (hf : Tryd.pinned.checked.prog.funcNamed "cubby/cubbylaw06.NameNorms" = some f) (hfn : Tryd.pinned.checked.prog.funcs[f]? = some fn) :
    true = Tryd.pinned.checked.prog.looks [] ∧ ∀ (j : Nat) t, fn.params[j]? = some t → Tryd.pinned.checked.prog.wantsStandIn t = false := by
  obtain rfl : f = 5 := Option.some.inj ((show Tryd.prog.funcNamed "cubby/cubbylaw06.NameNorms" = some 5 by kernel_rfl).symm.trans hf) |>.symm
  obtain rfl : fn = Tryd.f5 := (Option.some.inj (Tryd.func5.symm.trans hfn)).symm
  refine ⟨by kernel_rfl, fun j t ht => ?_⟩
  rw [Tryd.params5] at ht
  have hm : t ∈ [9] := by simpa using Array.mem_of_getElem? ht
  have hall : ([9].all fun u => !Tryd.prog.wantsStandIn u) = true := by kernel_rfl
  exact (show Tryd.prog.wantsStandIn t = false by simpa using List.all_eq_true.1 hall t hm)
theorem holds : Rows.NameNormsCardSaid :=
  Claim7.holds_tied_plain_at .later [] _ _ _ _ said (fun _ h => by cases h) (by kernel_rfl) (fun _ h => by cases h) nameNorms_row_tie rfl ⟨rfl, rfl⟩ (by kernel_rfl) rfl plain (by kernel_rfl)
#print axioms holds
end Go.Proofs.YtfnckkmnncdelaaDoor.NameNorms
