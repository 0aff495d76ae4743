/-
  A text without signs is like itself alone; a star is like all, a percent sign like all without a slash: cubbylaw06.NameSelf answers true, for every two texts.
-/
import Derived.Test.YtfnckkmnncdelaaDoorCards
import Derived.Test.YtfnckkmnncdelaaDoorTie
import Derived.Test.YtfnckkmnncdelaaDoorLikeLaw
import Derived.Test.YtfnckkmnncdelaaDoorNameAwake
import Derived.SevenTiedAt
namespace Go.Proofs.YtfnckkmnncdelaaDoor
theorem Lk_plain : ∀ (p t : List UInt8), (∀ c ∈ p, c ≠ 42 ∧ c ≠ 37) → (Lk p t ↔ p = t)
  | [], t, _ => by
    unfold Lk
    exact ⟨fun h => h.symm, fun h => h.symm⟩
  | c :: p, t, h => by
    have hc := h c (by simp)
    have ih := fun v => Lk_plain p v (fun d hd => h d (by simp [hd]))
    unfold Lk oneSign
    simp only [hc.1, hc.2, if_false]
    constructor
    · rintro ⟨u, v, rfl, rfl, hv⟩
      rw [(ih v).1 hv]; rfl
    · rintro rfl
      exact ⟨[c], p, rfl, rfl, (ih p).2 rfl⟩
theorem like_plain (p s : ByteArray) (h : ∀ c ∈ p.data.toList, c ≠ 42 ∧ c ≠ 37) : likeRow s p.data.toList s.size = (p.toList == s.toList) := by
  rw [Bool.eq_iff_iff, likeRow_lk, Lk_plain _ _ h, ByteArray.toList_eq, ByteArray.toList_eq]; simp
theorem like_star (s : ByteArray) : likeRow s [42] s.size = true := by
  rw [likeRow_lk]; exact ⟨s.data.toList, [], by simp, by simp [oneSign], rfl⟩
theorem like_percent (s : ByteArray) : likeRow s [37] s.size = s.data.toList.all (fun c => (c.toNat : Int) != 47) := by
  rw [Bool.eq_iff_iff, likeRow_lk, List.all_eq_true]
  unfold Lk oneSign
  simp only [show ¬ (37 : UInt8) = 42 from by decide, if_false, if_true]
  constructor
  · rintro ⟨u, v, e, h, hv⟩ c hc
    unfold Lk at hv
    rw [hv, List.append_nil] at e
    rw [int_ne_47, bne_iff_ne]
    rintro rfl
    rw [e] at hc; exact h hc
  · intro h
    refine ⟨s.data.toList, [], by simp, fun hm => ?_, rfl⟩
    have := h 47 hm
    exact absurd this (by decide)
def noSigns (l : List UInt8) : Bool := l.all fun c => ((c.toNat : Int) != 42) && ((c.toNat : Int) != 37)
def noSlash (l : List UInt8) : Bool := l.all fun c => ((c.toNat : Int) != 47)
theorem noSigns_snoc (l : List UInt8) (c : UInt8) : noSigns (l ++ [c]) = (noSigns l && (((c.toNat : Int) != 42) && ((c.toNat : Int) != 37))) := by simp [noSigns]
theorem noSlash_snoc (l : List UInt8) (c : UInt8) : noSlash (l ++ [c]) = (noSlash l && ((c.toNat : Int) != 47)) := by simp [noSlash]
theorem noSigns_mem (l : List UInt8) (h : noSigns l = true) : ∀ c ∈ l, c ≠ 42 ∧ c ≠ 37 := by
  intro c hc
  have := List.all_eq_true.1 h c hc
  simp only [Bool.and_eq_true, bne_iff_ne] at this
  exact ⟨fun e => this.1 (by rw [e]; decide), fun e => this.2 (by rw [e]; decide)⟩
end Go.Proofs.YtfnckkmnncdelaaDoor
namespace Go.Proofs.YtfnckkmnncdelaaDoor.NameSelf
open Go.RowKit Go.ChangeShapes Go.WideShapes Go.ChangeAt
open Go.ChangeMaps (open_string shut_string)
set_option maxHeartbeats 1000000 in
theorem law (s t : ByteArray) (hs : s.size ≤ 9223372036854775807) (ht : t.size ≤ 9223372036854775807) (m : Int) (w : World) (hm : w.cell? ⟨0, 0, none⟩ = some (.int .i64 m)) (hg : 0 < w.heap.size) :
    Calls Tryd.prog 4 #[.string s, .string t] w fun e w' => e = .returned (.bool true) ∧ Below w.heap.size w w' := by
  have a1 := awake06 m w hm
  have a2 : ∀ w1, Below w.heap.size w w1 → Calls Tryd.prog 12 #[] w1 fun e w' => e = .returned (.bool true) ∧ Below w1.heap.size w1 w' := fun w1 hb => awake06 m w1 ((hb.cell (p := ⟨0, 0, none⟩) hg).trans hm)
  have A1 := Lib.hid a1; clear a1
  have A2 := Lib.hid a2; clear a2 hm
  by_cases hlong : 100 < s.size ∨ 100 < t.size
  · by_cases h1 : 100 < s.size
    · clear hlong
      go_enter Tryd.func4, Tryd.ntmps4
      go_wp2_with fail
      refine A1.out.mono ?_
      rintro e w1 ⟨rfl, hb1⟩
      go_wp2_with fail
      refine (A2.out w1 hb1).mono ?_
      rintro e w2 ⟨rfl, hb2⟩
      go_wp2
      go_ret
      exact ⟨rfl, hb1.trans (hb2.mono hb1.size)⟩
    · have h2 : 100 < t.size := by omega
      clear hlong
      go_enter Tryd.func4, Tryd.ntmps4
      go_wp2_with fail
      refine A1.out.mono ?_
      rintro e w1 ⟨rfl, hb1⟩
      go_wp2_with fail
      refine (A2.out w1 hb1).mono ?_
      rintro e w2 ⟨rfl, hb2⟩
      go_wp2
      go_ret
      exact ⟨rfl, hb1.trans (hb2.mono hb1.size)⟩
  · have h1 : s.size ≤ 100 := by omega
    have h2 : t.size ≤ 100 := by omega
    clear hlong
    go_enter Tryd.func4, Tryd.ntmps4
    go_wp2_with fail
    refine A1.out.mono ?_
    rintro e w1 ⟨rfl, hb1⟩
    go_wp2
    go_loop [5, 6, 23] (fun pl wh i => ∃ k : Nat, i = .int .i64 k ∧ k ≤ s.size ∧ pl = .bool (noSigns (s.data.toList.take k)) ∧ wh = .bool (noSlash (s.data.toList.take k))) (fun _ _ i => s.size - (intOf i).toNat)
    case atStart => exact ⟨0, rfl, by omega, rfl, rfl⟩
    case round =>
      obtain ⟨k, rfl, hk, rfl, rfl⟩ := hrel
      by_cases hlt : k < s.size
      · have e1 := noSigns_snoc (s.data.toList.take k) s[k]
        have e2 := noSlash_snoc (s.data.toList.take k) s[k]
        rw [← take_snoc s k hlt] at e1 e2
        have E1 := Lib.hid e1; clear e1
        have E2 := Lib.hid e2; clear e2
        generalize noSigns (s.data.toList.take k) = P at *
        generalize noSlash (s.data.toList.take k) = Q at *
        go_wp2
        all_goals
          go_round
          case rel => exact ⟨k + 1, by go_num, by omega, by rw [E1.out]; congr 1; simp [*], by rw [E2.out]; congr 1; simp [*]⟩
          case measure => simp [intOf] <;> omega
      · obtain rfl : k = s.size := by omega
        rw [toList_take s _ rfl]
        have g1 := like_star s
        have g2 := like_percent s
        have g3 : noSigns s.data.toList = true → likeRow t s.data.toList t.size = (s.toList == t.toList) := fun h => like_plain s t (noSigns_mem _ h)
        have hq : noSlash s.data.toList = s.data.toList.all (fun c => (c.toNat : Int) != 47) := rfl
        rw [← hq] at g2
        clear hq
        generalize noSigns s.data.toList = P at *
        generalize noSlash s.data.toList = Q at *
        have G1 := Lib.hid g1; clear g1
        have G2 := Lib.hid g2; clear g2
        have G3 := Lib.hid g3; clear g3
        cases P with
        | true =>
          go_wp2_with fail
          refine (like_any s t h1 h2 w1).mono ?_
          rintro e w2 ⟨rfl, hb2⟩
          have hb2' := hb1.trans (hb2.mono hb1.size)
          rw [G3.out trivial]
          go_wp2_with fail
          refine (like_any ⟨#[42]⟩ s (by decide) h1 w2).mono ?_
          rintro e w3 ⟨rfl, hb3⟩
          have hb3' := hb2'.trans (hb3.mono hb2'.size)
          rw [show (⟨#[42]⟩ : ByteArray).data.toList = [42] from rfl, G1.out]
          go_wp2_with fail
          refine (like_any ⟨#[37]⟩ s (by decide) h1 w3).mono ?_
          rintro e w4 ⟨rfl, hb4⟩
          have hb4' := hb3'.trans (hb4.mono hb3'.size)
          rw [show (⟨#[37]⟩ : ByteArray).data.toList = [37] from rfl, G2.out]
          go_wp2
          go_ret
          exact ⟨by simp, hb4'⟩
        | false =>
          go_wp2_with fail
          refine (like_any ⟨#[42]⟩ s (by decide) h1 w1).mono ?_
          rintro e w3 ⟨rfl, hb3⟩
          have hb3' := hb1.trans (hb3.mono hb1.size)
          rw [show (⟨#[42]⟩ : ByteArray).data.toList = [42] from rfl, G1.out]
          go_wp2_with fail
          refine (like_any ⟨#[37]⟩ s (by decide) h1 w3).mono ?_
          rintro e w4 ⟨rfl, hb4⟩
          have hb4' := hb3'.trans (hb4.mono hb3'.size)
          rw [show (⟨#[37]⟩ : ByteArray).data.toList = [37] from rfl, G2.out]
          go_wp2
          go_ret
          exact ⟨by simp, hb4'⟩
theorem own : ownKnob Tryd.prog.godebug = none := by kernel_rfl
set_option maxRecDepth 100000 in
theorem contract (H : Type) (enc : TypeId × Value → H) (W : World) (base : Nat) (args : Array Value) (ds gs : List (DataW H)) (before : List MemPlace)
    (hval : ∀ (j : Nat) t v, Tryd.f4.params[j]? = some t → args[j]? = some v → Value.okWide Tryd.prog W .any base t v)
    (hW : DataW.Whole enc Tryd.prog Tryd.f4.params.toList Rows.nameSelfSpec.vars false W args.toList ds gs before) (_hL : laidMetH Tryd.prog Rows.nameSelfRow.laid W) (hsh : W.ShapedOpen Tryd.prog) :
    Calls Tryd.prog 4 args W fun e W' => ∃ v, e = .returned v ∧ Rows.nameSelfSpec.post enc Tryd.prog Tryd.f4 false true false false W args v W' := by
  have hW' := hW
  obtain ⟨p, q, hA0, hV, rfl, hfz, hnd⟩ := hW
  have hA : DataW.TrodAll enc Tryd.prog W 0 (fun _ => true) true Tryd.f4.params.toList args.toList ds p := hA0
  rw [Tryd.params4] at hA hval
  obtain ⟨v0, v1, d0, d1, p0, p1, rfl, rfl, rfl, g0, g1⟩ := trodAll_two hA
  obtain ⟨rfl, rfl⟩ := trodVars_none hV
  obtain ⟨x0, rfl, rfl, rfl, h0⟩ := open_string Tryd.underlying9 (hval 0 9 v0 rfl rfl) g0
  obtain ⟨x1, rfl, rfl, rfl, h1⟩ := open_string Tryd.underlying9 (hval 1 9 v1 rfl rfl) g1
  clear hA0
  simp only [List.append_nil] at hW'
  obtain ⟨m, hm⟩ := Tryd.laysM146.s1_3 W hsh
  refine (law x0 x1 h0 h1 m W hm (block_lt_of_cell hm)).mono fun e W' ⟨he, hb⟩ => ?_
  subst he
  exact ⟨_, rfl, post_of_below (pa := []) (pv := []) hW' (fun _ _ _ => trodAll_mk1 (shut_bool Tryd.underlying4 _)) (fun _ _ => trodAll_mk2 (shut_string Tryd.underlying9 h0) (shut_string Tryd.underlying9 h1)) (fun _ _ => rfl) rfl
    hb (ok_one (by kernel_rfl) rfl (okWide_bool_mk Tryd.underlying4 _))⟩
set_option maxRecDepth 100000 in
theorem reads (os : Os) {H : Type} (enc : TypeId × Value → H) : ∃ places, DataW.whole enc Tryd.prog ((World.laidAll Tryd.prog os Rows.nameSelfRow.laid).forCall (fun _ _ => 0) ⟨#[], #[.string ⟨#[]⟩, .string ⟨#[]⟩], []⟩).memory Tryd.f4.params.toList Rows.nameSelfSpec.vars false #[Value.string ⟨#[]⟩, Value.string ⟨#[]⟩].toList 8 = some ([.lit (.string []), .lit (.string [])], [], places) :=
  ⟨[], by kernel_rfl⟩
set_option maxRecDepth 100000 in
theorem lifted (os : Os) (started : os.Started) (H : Type) (enc : TypeId × Value → H) (F : Stop.Interp) :
    ReturnsInHanded {} Tryd.checked os 4 .any ((OpenSpec.ofChange Rows.nameSelfSpec).preRow enc Tryd.prog Tryd.f4 Rows.nameSelfRow.domain false Rows.nameSelfRow.laid) (((OpenSpec.ofChange Rows.nameSelfSpec).at F).post enc Tryd.prog Tryd.f4 false true false false) := by
  obtain ⟨places, hx⟩ := reads os enc
  refine returnsInHanded_of_row (C := Tryd.checked) (s := OpenSpec.ofChange Rows.nameSelfSpec) own started (by kernel_rfl) Tryd.func4
    (witness_row_shaped (enc := enc) (C := Tryd.checked) false (World.laidAll Tryd.prog os Rows.nameSelfRow.laid) #[.string ⟨#[]⟩, .string ⟨#[]⟩] (World.laidAll_os _ _ _) (World.shaped_of_ZipB (by kernel_rfl) (by kernel_rfl)) (by kernel_rfl)
      (OpenSpec.preRow_of_cond 8 hx (by kernel_rfl) (fun k hk => by cases hk) (by kernel_rfl) (laidMet_laidAll _ (by kernel_rfl) (by kernel_rfl)))) ?_
  intro W base args ds gs before hval hW _ _ _ hL hsh _
  exact contract H enc W base args ds gs before hval hW hL hsh
theorem said : Rows.NameSelfSaid :=
  OpenClaim.holds_of_cond 4 Tryd.f4 rfl rfl rfl rfl rfl rfl rfl ⟨rfl, rfl, rfl, rfl, rfl⟩ rfl rfl rfl rfl rfl (by kernel_rfl) Tryd.func4 (by kernel_rfl)
    (of_decide_eq_true (by kernel_rfl)) (by unfold Func.isWrapper; first | (rw [if_pos (by decide +kernel)]; kernel_rfl) | (rw [if_neg (by decide +kernel)]; exact ⟨rfl, rfl⟩))
    (fun os started H enc _ F => by rw [OpenClaim.pre_eq_preRow]; exact lifted os started H enc F)
theorem plain (f : FuncId) (fn : Func) (hf : Tryd.pinned.checked.prog.funcNamed "cubby/cubbylaw06.NameSelf" = some f) (hfn : Tryd.pinned.checked.prog.funcs[f]? = some fn) :
    true = Tryd.pinned.checked.prog.looks [] ∧ ∀ (j : Nat) t, fn.params[j]? = some t → Tryd.pinned.checked.prog.wantsStandIn t = false := by
  obtain rfl : f = 4 := Option.some.inj ((show Tryd.prog.funcNamed "cubby/cubbylaw06.NameSelf" = some 4 by kernel_rfl).symm.trans hf) |>.symm
  obtain rfl : fn = Tryd.f4 := (Option.some.inj (Tryd.func4.symm.trans hfn)).symm
  refine ⟨by kernel_rfl, fun j t ht => ?_⟩
  rw [Tryd.params4] at ht
  have hm : t ∈ [9, 9] := by simpa using Array.mem_of_getElem? ht
  have hall : ([9, 9].all fun u => !Tryd.prog.wantsStandIn u) = true := by kernel_rfl
  exact (show Tryd.prog.wantsStandIn t = false by simpa using List.all_eq_true.1 hall t hm)
theorem holds : Rows.NameSelfCardSaid :=
  Claim7.holds_tied_plain_at .later [] _ _ _ _ said (fun _ h => by cases h) (by kernel_rfl) (fun _ h => by cases h) nameSelf_row_tie rfl ⟨rfl, rfl⟩ (by kernel_rfl) rfl plain (by kernel_rfl)
#print axioms holds
end Go.Proofs.YtfnckkmnncdelaaDoor.NameSelf
