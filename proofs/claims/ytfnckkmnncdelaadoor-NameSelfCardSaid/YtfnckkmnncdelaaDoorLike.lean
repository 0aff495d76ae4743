/-
  name.Like, walked: it answers what the rows of the pattern say.
-/
import Derived.Test.YtfnckkmnncdelaaDoorProg
import Derived.Test.YtfnckkmnncdelaaDoorBase
namespace Go.Proofs.YtfnckkmnncdelaaDoor
open Go.RowKit
theorem boolInfo : (Tryd.prog.info? 4).map (fun i => (i.zero, i.size, i.bytes)) = some (some (.bool false), 1, 1) := by kernel_rfl
theorem make_bools (n : Nat) (h : n ≤ 1000) (w : World) :
    (Instr.makeSlice 51 (.int .i64 ((n : Int) + 1)) (.int .i64 ((n : Int) + 1))).run Tryd.prog w = .ok (.slice (some ⟨w.heap.size, 0, none⟩) (n+1) (n+1)) (w.alloc (.cells (bcells (List.replicate (n+1) false)) 4)) := by
  obtain ⟨i, h1, h2, h3, h4⟩ := info_parts boolInfo
  have := run_make_rowN (P := Tryd.prog) 51 4 i _ Tryd.underlying51 h1 h2 .i64 .i64 (n+1) (n+1) (Nat.le_refl _) (by rw [h4]; omega) (by omega) w
  rw [h3, Nat.mul_one, madeBools] at this
  rw [← this]; simp
/-- one sign of the pattern -/
def likeStep (s : ByteArray) (f : Nat → Bool) (c : UInt8) : Nat → Bool
  | 0 => if ((c.toNat : Int) == 42) then f 0 else if ((c.toNat : Int) == 37) then f 0 else false
  | k + 1 => if ((c.toNat : Int) == 42) then f (k+1) || likeStep s f c k else if ((c.toNat : Int) == 37) then f (k+1) || (likeStep s f c k && (((bat s k).toNat : Int) != 47)) else f k && (((bat s k).toNat : Int) == (c.toNat : Int))
def likeRow0 : Nat → Bool := fun j => j == 0
def likeRow (s : ByteArray) (p : List UInt8) : Nat → Bool := p.foldl (likeStep s) likeRow0

theorem likeRow_snoc (s : ByteArray) (l : List UInt8) (c : UInt8) : likeRow s (l ++ [c]) = likeStep s (likeRow s l) c := by simp [likeRow]
set_option maxRecDepth 100000 in
set_option maxHeartbeats 1000000 in
theorem like_any (p s : ByteArray) (hp : p.size ≤ 100) (hs : s.size ≤ 100) (w : World) :
    Calls Tryd.prog 13 #[.string p, .string s] w fun e w' => e = .returned (.bool (likeRow s p.data.toList s.size)) ∧ Below w.heap.size w w' := by
  have hmk := make_bools s.size (by omega)
  go_enter Tryd.func13, Tryd.ntmps13
  go_wp2
  go_loopw [5, 18] (fun may i wr => ∃ (k g : Nat), i = .int .i64 k ∧ k ≤ p.size ∧ may = .slice (some ⟨g, 0, none⟩) (s.size + 1) (s.size + 1) ∧ w.heap.size ≤ g ∧ Hid (Blk wr g 4 (bfn (likeRow s (p.data.toList.take k)) (s.size + 1))) ∧ Below w.heap.size w wr) (fun _ i _ => p.size - (intOf i).toNat)
  case atStart =>
    refine ⟨0, w.heap.size, rfl, by omega, rfl, by omega, ?_, ?_⟩
    · have := heap_alloc_new w (.cells ((bcells (List.replicate (s.size + 1) false)).setIfInBounds 0 (.bool true)) 4)
      have e : (bcells (List.replicate (s.size + 1) false)).setIfInBounds 0 (.bool true) = bfn likeRow0 (s.size + 1) := by
        rw [bfn_none, bfn_ext (fun _ => false) (uptoB (fun _ => true) 0) _ (by simp [uptoB]), bfn_set _ _ _ _ rfl]
        exact bfn_ext _ _ _ (by intro i _; simp [uptoB, likeRow0]; cases i <;> rfl)
      rw [e] at this ⊢
      exact this
    · exact (Below.refl _ _).alloc (Nat.le_refl _) _
  case round =>
    obtain ⟨k, g, rfl, hk, rfl, hg, hb, hbl⟩ := hrel
    by_cases hlt : k < p.size
    · have hgl := hb.out.lt
      go_wp2
      generalize hF : likeRow s (p.data.toList.take k) = F at *
      have HF := Lib.hid hF; clear hF
      obtain ⟨wo, rfl⟩ : ∃ wo : World, wo = wr := ⟨_, rfl⟩
      go_loopw [8, 9, 27] (fun _ _ i wr => ∃ (j : Nat), i = .int .i64 j ∧ j ≤ s.size + 1 ∧ Hid (Blk wr g 4 (bfn F (s.size + 1))) ∧ Hid (Blk wr wo.heap.size 4 (bfn (uptoB (likeStep s F p[k]) j) (s.size + 1))) ∧ Below w.heap.size w wr) (fun _ _ i _ => s.size + 1 - (intOf i).toNat)
      case atStart =>
        refine ⟨0, rfl, by omega, hb.out.alloc _, ?_, hbl.alloc hbl.size _⟩
        rw [bfn_ext (uptoB _ 0) (fun _ => false) _ (by simp [uptoB]), ← bfn_none]
        exact Blk.new _ _ _
      case round =>
        obtain ⟨j, rfl, hj, hb1, hb2, hbl1⟩ := hrel
        by_cases hlt2 : j < s.size + 1
        · have K1 : Hid (∀ b, b = likeStep s F p[k] j → Blk (wr.setCell ⟨wo.heap.size, j, none⟩ (.bool b)) wo.heap.size 4 (bfn (uptoB (likeStep s F p[k]) (j + 1)) (s.size + 1))) :=
            fun b hb => by rw [← bfn_set _ _ _ b hb]; exact hb2.out.set_ _ _
          have K2 : Hid (∀ b, Blk (wr.setCell ⟨wo.heap.size, j, none⟩ (.bool b)) g 4 (bfn F (s.size + 1)) ∧ Below w.heap.size w (wr.setCell ⟨wo.heap.size, j, none⟩ (.bool b))) :=
            fun b => ⟨hb1.out.far (by simp; omega) _, hbl1.setCell (by have := hbl.size; simpa using this) _⟩
          by_cases hj0 : j = 0
          · subst hj0
            have c1 := hb1.out.cell 0
            rw [bfn_get _ _ _ (by omega)] at c1
            have c2 := hb2.out.cell 0
            rw [bfn_get _ _ _ (by omega)] at c2
            have c3 := hb2.out.frozen 0
            clear hmk
            go_wp2
            all_goals
              go_roundw
              case rel =>
                refine ⟨1, rfl, by omega, (K2.out _).1, K1.out _ ?_, (K2.out _).2⟩
                clear K1 K2
                simp [likeStep, *]
              case measure => simp [intOf] <;> omega
          · obtain ⟨i, rfl⟩ : ∃ i, j = i + 1 := ⟨j - 1, by omega⟩
            have c1 := hb1.out.cell (i + 1)
            rw [bfn_get _ _ _ (by omega)] at c1
            have c0 := hb1.out.cell i
            rw [bfn_get _ _ _ (by omega)] at c0
            have c2 := hb2.out.cell (i + 1)
            rw [bfn_get _ _ _ (by omega)] at c2
            have d2 := hb2.out.cell i
            rw [bfn_get _ _ _ (by omega)] at d2
            have ev : uptoB (likeStep s F p[k]) (i + 1) i = likeStep s F p[k] i := by simp [uptoB]
            rw [ev] at d2
            clear ev
            have c3 := hb2.out.frozen (i + 1)
            clear hmk
            go_wp2
            all_goals
              go_roundw
              case rel =>
                refine ⟨i + 1 + 1, by go_num, by omega, (K2.out _).1, K1.out _ ?_, (K2.out _).2⟩
                have hbi := bat_eq s i (by omega)
                clear K1 K2
                simp [likeStep, *]
              case measure => simp [intOf] <;> omega
        · obtain rfl : j = s.size + 1 := by omega
          clear hmk
          go_wp2
          go_roundw
          case rel =>
            refine ⟨k + 1, _, by go_num, by omega, rfl, by have := hbl.size; omega, ?_, hbl1⟩
            have h2 := hb2.out
            rw [bfn_ext (uptoB _ _) (likeStep s F p[k]) _ (by intro i hi; simp [uptoB, hi])] at h2
            rw [take_snoc p k hlt, likeRow_snoc, HF.out]
            exact h2
          case measure => simp [intOf] <;> omega
    · obtain rfl : k = p.size := by omega
      have c1 := hb.out.cell s.size
      rw [bfn_get _ _ _ (by omega), List.take_of_length_le (by simp)] at c1
      clear hmk
      go_wp2
      go_ret
      exact ⟨rfl, hbl⟩
end Go.Proofs.YtfnckkmnncdelaaDoor
