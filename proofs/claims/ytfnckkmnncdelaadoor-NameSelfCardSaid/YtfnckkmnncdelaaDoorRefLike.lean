/-
  cubbyref06.Like, walked: it answers what the rows of the pattern say, from behind.
-/
import Derived.Test.YtfnckkmnncdelaaDoorLike
import Derived.StillTailTactics
namespace Go.Proofs.YtfnckkmnncdelaaDoor
open Go.RowKit
/-- what stands at the place that is m ahead of the end -/
def refStep (s : ByteArray) (f : Nat → Bool) (c : UInt8) : Nat → Bool
  | 0 => if ((c.toNat : Int) == 42) then f s.size else if ((c.toNat : Int) == 37) then f s.size else false
  | m + 1 => if ((c.toNat : Int) == 42) then f (s.size - (m+1)) || refStep s f c m
      else if ((c.toNat : Int) == 37) then f (s.size - (m+1)) || (refStep s f c m && (((bat s (s.size - (m+1))).toNat : Int) != 47))
      else (((bat s (s.size - (m+1))).toNat : Int) == (c.toNat : Int)) && f (s.size - (m+1) + 1)
def refNow (s : ByteArray) (f : Nat → Bool) (c : UInt8) : Nat → Bool := fun j => refStep s f c (s.size - j)
def refRow0 (s : ByteArray) : Nat → Bool := fun j => j == s.size
def refRow (s : ByteArray) (p : List UInt8) : Nat → Bool := p.foldr (fun c f => refNow s f c) (refRow0 s)
def downB (f : Nat → Bool) (k : Nat) : Nat → Bool := fun j => decide (k ≤ j) && f j
theorem refNow_end (s : ByteArray) (f : Nat → Bool) (c : UInt8) : refNow s f c s.size = if ((c.toNat : Int) == 42) then f s.size else if ((c.toNat : Int) == 37) then f s.size else false := by
  simp [refNow, refStep]
theorem refNow_at (s : ByteArray) (f : Nat → Bool) (c : UInt8) (k : Nat) (h : k < s.size) : refNow s f c k = if ((c.toNat : Int) == 42) then f k || refNow s f c (k+1)
      else if ((c.toNat : Int) == 37) then f k || (refNow s f c (k+1) && (((s[k]).toNat : Int) != 47))
      else (((s[k]).toNat : Int) == (c.toNat : Int)) && f (k + 1) := by
  obtain ⟨m, hm⟩ : ∃ m, s.size - k = m + 1 := ⟨s.size - k - 1, by omega⟩
  have e1 : s.size - (m + 1) = k := by omega
  have e2 : s.size - (k + 1) = m := by omega
  simp only [refNow, hm, refStep, e1, e2, bat_eq s k h]
theorem drop_cons (p : ByteArray) (i : Nat) (h : i < p.size) : p.data.toList.drop i = p[i] :: p.data.toList.drop (i + 1) := by
  rw [List.drop_eq_getElem_cons (by simpa using h)]; rfl
theorem refRow_cons (s : ByteArray) (c : UInt8) (l : List UInt8) : refRow s (c :: l) = refNow s (refRow s l) c := rfl

set_option maxRecDepth 100000 in
set_option maxHeartbeats 1000000 in
theorem refLike_any (p s : ByteArray) (hp : p.size ≤ 100) (hs : s.size ≤ 100) (w : World) :
    Calls Tryd.prog 14 #[.string p, .string s] w fun e w' => e = .returned (.bool (refRow s p.data.toList 0)) ∧ Below w.heap.size w w' := by
  have hmk := make_bools s.size (by omega)
  have hm0 : (bcells (List.replicate (s.size + 1) false))[s.size]? = some (.bool false) := by simp [bcells]
  go_enter Tryd.func14, Tryd.ntmps14
  go_wp2
  go_loopw [5, 6] (fun nx i wr => ∃ (g : Nat), nx = .slice (some ⟨g, 0, none⟩) (s.size + 1) (s.size + 1) ∧ w.heap.size ≤ g ∧ Below w.heap.size w wr ∧
     ((∃ k : Nat, k < p.size ∧ i = .int .i64 k ∧ Hid (Blk wr g 4 (bfn (refRow s (p.data.toList.drop (k + 1))) (s.size + 1)))) ∨ (i = .int .i64 (-1) ∧ Hid (Blk wr g 4 (bfn (refRow s p.data.toList) (s.size + 1)))))) (fun _ i _ => (intOf i + 1).toNat)
  case atStart =>
    refine ⟨w.heap.size, rfl, by omega, (Below.refl _ _).alloc (Nat.le_refl _) _, ?_⟩
    have hB : Blk (w.alloc (.cells ((bcells (List.replicate (s.size + 1) false)).setIfInBounds s.size (.bool true)) 4)) w.heap.size 4 (bfn (refRow0 s) (s.size + 1)) := by
      have := Blk.new w 4 ((bcells (List.replicate (s.size + 1) false)).setIfInBounds s.size (.bool true))
      have e : (bcells (List.replicate (s.size + 1) false)).setIfInBounds s.size (.bool true) = bfn (refRow0 s) (s.size + 1) := by
        rw [bfn_none]; exact bfn_setAt _ _ _ _ _ (by simp [refRow0]) (fun i _ h => by simp [refRow0, h])
      rw [e] at this ⊢
      exact this
    by_cases h0 : p.size = 0
    · right
      refine ⟨by rw [h0]; rfl, ?_⟩
      have : p.data.toList = [] := List.eq_nil_of_length_eq_zero (by simpa using h0)
      rw [this]; exact hB
    · left
      refine ⟨p.size - 1, by omega, by congr 1; omega, ?_⟩
      rw [List.drop_eq_nil_of_le (by simp; omega)]
      exact hB
  case round =>
    obtain ⟨g, rfl, hg, hbl, hrel⟩ := hrel
    rcases hrel with ⟨k, hk, rfl, hb⟩ | ⟨rfl, hb⟩
    · have hgl := hb.out.lt
      clear hm0
      go_wp2
      generalize hF : refRow s (p.data.toList.drop (k + 1)) = F at *
      have HF := Lib.hid hF; clear hF
      obtain ⟨wo, rfl⟩ : ∃ wo : World, wo = wr := ⟨_, rfl⟩
      go_loopw [8] (fun i wr => Hid (Blk wr g 4 (bfn F (s.size + 1))) ∧ Below w.heap.size w wr ∧
        ((∃ j : Nat, j ≤ s.size ∧ i = .int .i64 j ∧ Hid (Blk wr wo.heap.size 4 (bfn (downB (refNow s F p[k]) (j + 1)) (s.size + 1)))) ∨ (i = .int .i64 (-1) ∧ Hid (Blk wr wo.heap.size 4 (bfn (refNow s F p[k]) (s.size + 1)))))) (fun i _ => (intOf i + 1).toNat)
      case atStart =>
        refine ⟨hb.out.alloc _, hbl.alloc hbl.size _, .inl ⟨s.size, by omega, rfl, ?_⟩⟩
        rw [bfn_ext (downB _ _) (fun _ => false) _ (by intro i hi; simp [downB]; omega), ← bfn_none]
        exact Blk.new _ _ _
      case round =>
        obtain ⟨hb1, hbl1, hrel⟩ := hrel
        rcases hrel with ⟨j, hj, rfl, hb2⟩ | ⟨rfl, hb2⟩
        · have K1 : Hid (∀ (W : World) b, b = refNow s F p[k] j → Blk W wo.heap.size 4 (bfn (downB (refNow s F p[k]) (j + 1)) (s.size + 1)) → Blk (W.setCell ⟨wo.heap.size, j, none⟩ (.bool b)) wo.heap.size 4 (bfn (downB (refNow s F p[k]) j) (s.size + 1))) :=
            fun W b hb hB => by
              rw [← bfn_setAt (downB (refNow s F p[k]) (j + 1)) (downB (refNow s F p[k]) j) (s.size + 1) j b (by simp [downB, hb]) (fun i _ hne => by
                have : (j + 1 ≤ i) ↔ (j ≤ i) := by omega
                simp [downB, this])]
              exact hB.set_ _ _
          have K2 : Hid (∀ (W : World) b, Blk W g 4 (bfn F (s.size + 1)) → Below w.heap.size w W → Blk (W.setCell ⟨wo.heap.size, j, none⟩ (.bool b)) g 4 (bfn F (s.size + 1)) ∧ Below w.heap.size w (W.setCell ⟨wo.heap.size, j, none⟩ (.bool b))) :=
            fun W b h1 h2 => ⟨h1.far (by simp; omega) _, h2.setCell (by have := hbl.size; simpa using this) _⟩
          have c1 := hb1.out.cell j
          rw [bfn_get _ _ _ (by omega)] at c1
          have c2 := hb2.out.cell j
          rw [bfn_get _ _ _ (by omega)] at c2
          have c3 := hb2.out.frozen j
          clear hmk
          have Kc : Hid (∀ (W : World) b, b = refNow s F p[k] j → Blk W g 4 (bfn F (s.size + 1)) → Blk W wo.heap.size 4 (bfn (downB (refNow s F p[k]) (j + 1)) (s.size + 1)) → Below w.heap.size w W →
              Hid (Blk (W.setCell ⟨wo.heap.size, j, none⟩ (.bool b)) g 4 (bfn F (s.size + 1))) ∧ Below w.heap.size w (W.setCell ⟨wo.heap.size, j, none⟩ (.bool b)) ∧
              ((∃ j' : Nat, j' ≤ s.size ∧ Value.int .i64 ((j : Int) - 1) = .int .i64 j' ∧ Hid (Blk (W.setCell ⟨wo.heap.size, j, none⟩ (.bool b)) wo.heap.size 4 (bfn (downB (refNow s F p[k]) (j' + 1)) (s.size + 1)))) ∨
                (Value.int .i64 ((j : Int) - 1) = .int .i64 (-1) ∧ Hid (Blk (W.setCell ⟨wo.heap.size, j, none⟩ (.bool b)) wo.heap.size 4 (bfn (refNow s F p[k]) (s.size + 1)))))) := by
            intro W b hb hA hB hC
            refine ⟨(K2.out _ _ hA hC).1, (K2.out _ _ hA hC).2, ?_⟩
            have := K1.out _ _ hb hB
            by_cases h0 : j = 0
            · right
              refine ⟨by rw [h0]; rfl, ?_⟩
              rw [bfn_ext (refNow s F p[k]) (downB (refNow s F p[k]) j) _ (by intro i _; simp [downB, h0])]
              exact this
            · left
              refine ⟨j - 1, by omega, by congr 1; omega, ?_⟩
              rw [show j - 1 + 1 = j from by omega]
              exact this
          clear K1 K2
          by_cases hje : j = s.size
          · subst hje
            have en := refNow_end s F p[k]
            have En := Lib.hid en; clear en
            rcases Bool.eq_false_or_eq_true ((p[k].toNat : Int) == 42) with hc | hc
            · go_wp2
              all_goals
                go_roundw
                case rel => exact Kc.out _ _ (by rw [En.out, if_pos hc]; simp [*]) hb1.out hb2.out hbl1
                case measure => simp [intOf] <;> omega
            · rcases Bool.eq_false_or_eq_true ((p[k].toNat : Int) == 37) with hc2 | hc2
              · go_wp2
                all_goals
                  go_roundw
                  case rel => exact Kc.out _ _ (by rw [En.out, hc, if_neg (by simp), if_pos hc2]; simp [*]) hb1.out hb2.out hbl1
                  case measure => simp [intOf] <;> omega
              · go_wp2
                go_region
                all_goals go_wp2
                all_goals
                  go_roundw
                  case rel =>
                    have h := Kc.out _ _ (by rw [En.out, hc, if_neg (by simp), hc2, if_neg (by simp)]) hb1.out hb2.out hbl1
                    exact ⟨h.1, h.2.1.drew, h.2.2⟩
                  case measure => simp [intOf] <;> omega
          · have hjl : j < s.size := by omega
            have d1 := hb1.out.cell (j + 1)
            rw [bfn_get _ _ _ (by omega)] at d1
            have d2 := hb2.out.cell (j + 1)
            rw [bfn_get _ _ _ (by omega)] at d2
            have ev : downB (refNow s F p[k]) (j + 1) (j + 1) = refNow s F p[k] (j + 1) := by simp [downB]
            rw [ev] at d2
            clear ev
            have en := refNow_at s F p[k] j hjl
            have En := Lib.hid en; clear en
            rcases Bool.eq_false_or_eq_true ((p[k].toNat : Int) == 42) with hc | hc
            · go_wp2
              all_goals
                go_roundw
                case rel => exact Kc.out _ _ (by rw [En.out, if_pos hc]; simp [*]) hb1.out hb2.out hbl1
                case measure => simp [intOf] <;> omega
            · rcases Bool.eq_false_or_eq_true ((p[k].toNat : Int) == 37) with hc2 | hc2
              · go_wp2
                all_goals
                  go_roundw
                  case rel => exact Kc.out _ _ (by rw [En.out, hc, if_neg (by simp), if_pos hc2]; simp [*]) hb1.out hb2.out hbl1
                  case measure => simp [intOf] <;> omega
              · rcases Bool.eq_false_or_eq_true ((s[j].toNat : Int) == (p[k].toNat : Int)) with he | he
                · go_wp2
                  go_region
                  all_goals go_wp2
                  all_goals
                    go_roundw
                    case rel =>
                      have h := Kc.out _ _ (by rw [En.out, hc, if_neg (by simp), hc2, if_neg (by simp), he]) hb1.out hb2.out hbl1
                      exact ⟨h.1, h.2.1.drew, h.2.2⟩
                    case measure => simp [intOf] <;> omega
                · go_wp2
                  go_region
                  all_goals go_wp2
                  all_goals
                    go_roundw
                    case rel =>
                      have h := Kc.out _ _ (by rw [En.out, hc, if_neg (by simp), hc2, if_neg (by simp), he]) hb1.out hb2.out hbl1
                      exact ⟨h.1, h.2.1.drew, h.2.2⟩
                    case measure => simp [intOf] <;> omega
        · have hgo := hbl.size
          clear hmk
          go_wp2
          go_roundw
          case rel =>
            refine ⟨wo.heap.size, rfl, by omega, hbl1, ?_⟩
            have hD := hb2.out
            rw [← HF.out, ← refRow_cons, ← drop_cons p k hk] at hD
            by_cases h0 : k = 0
            · subst h0
              exact .inr ⟨rfl, hD⟩
            · refine .inl ⟨k - 1, by omega, by congr 1; omega, ?_⟩
              rw [show k - 1 + 1 = k from by omega]
              exact hD
          case measure => simp [intOf] <;> omega
    · have c1 := hb.out.cell 0
      rw [bfn_get _ _ _ (by omega)] at c1
      clear hmk
      go_wp2
      go_ret
      exact ⟨rfl, hbl⟩
end Go.Proofs.YtfnckkmnncdelaaDoor
