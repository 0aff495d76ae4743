/-
  Walk of slices.Concat of two rows of bytes.
-/
import Derived.Test.YtplbclbeccoegaaAppend
import Derived.Test.YtplbclbeccoegaaDiskLib
namespace Go.Proofs.Ytplbclbeccoegaa
open Go.RowKit Go.Maps
theorem u8_info : (Try.prog.info? 5).map (fun i => (i.zero, i.size, i.bytes)) = some (some (.int .u8 0), 1, 1) := by kernel_rfl
theorem u8s_one (l : List UInt8) : ∀ u ∈ u8s l, u.oneCell' = true := by
  intro u hu
  simp only [u8s, List.mem_map] at hu
  obtain ⟨p, _, rfl⟩ := hu
  rfl
theorem u8s_append (l m : List UInt8) : u8s (l ++ m) = u8s l ++ u8s m := by simp [u8s]
theorem grow_any (n : Nat) (hn : n ≤ 1000000000) (w : World) : Calls Try.prog 47 #[.slice none 0 0, .int .i64 (n : Nat)] w fun e w' => ∃ v, e = .returned v ∧ w'.ownsRow w.heap.size 5 1 v 0 [] ∧ Below w.heap.size w w' := by
  obtain ⟨i0, hi0, hz0, hz1, hz2⟩ := info_parts u8_info
  rcases Nat.eq_zero_or_pos n with h | h
  · subst h
    refine (Any8.slices_Grow_room Try.grow47 none 0 0 0 w (Nat.le_refl _) (by omega) (by omega) (Nat.le_refl _)).mono ?_
    rintro e w' ⟨rfl, rfl⟩
    exact ⟨_, rfl, World.ownsRow_nil _ _ _ _, Below.refl _ _⟩
  · refine (Any8.slices_Grow_grow Try.grow47 i0 (.int .u8 0) hi0 hz0 (by omega) none 0 0 n [] w (Nat.le_refl _) (by omega) (by rw [hz2]; omega) (by omega) (by simp) (fun _ => rfl) (fun a ha => by cases ha)).mono ?_
    rintro e w' ⟨rfl, rfl⟩
    rw [show Try.grow47_ren.t 25 = 5 from rfl]
    have hle := grownCap_le_maxLen w (0 + n) 0 5 (by unfold maxLen; omega)
    have hge := grownCap_ge w (0 + n) 0 5
    refine ⟨_, rfl, ?_, (Below.refl _ _).drew.alloc (Nat.le_refl _) _⟩
    refine World.ownsRow_made w.drew _ _ (Nat.le_refl _) hle ?_
    show (([].toArray ++ Builtin.zeroCells (Value.int IntKind.u8 0).cells (0 + n - 0)) ++ Builtin.zeroCells (Value.int IntKind.u8 0).cells (grownCap w (0 + n) 0 5 - (0 + n))).size = _
    simp only [Array.size_append, size_zeroCells]
    simp only [Value.cells, List.size_toArray, List.length_nil, List.length_cons]
    omega
set_option maxHeartbeats 1000000 in
set_option maxRecDepth 100000 in
theorem concat_two (g : Nat) (A1 A2 : Option Addr) (c1 c2 : Nat) (l1 l2 : List UInt8) (h1 : l1.length ≤ 100000000) (h2 : l2.length ≤ 100000000) (w : World) (hg : Blk w g 33 #[.slice A1 l1.length c1, .slice A2 l2.length c2])
    (r1 : Reads w w.heap.size 1 A1 l1.length (u8s l1)) (r2 : Reads w w.heap.size 1 A2 l2.length (u8s l2)) :
    Calls Try.prog 43 #[.slice (some ⟨g, 0, none⟩) 2 2] w fun e w' => ∃ A c, e = .returned (.slice A (l1 ++ l2).length c) ∧ Reads w' w'.heap.size 1 A (l1 ++ l2).length (u8s (l1 ++ l2)) ∧ (l1 ++ l2).length ≤ c ∧ Below w.heap.size w w' := by
  obtain ⟨i0, hi0, hz0, hz1, hz2⟩ := info_parts u8_info
  have k0 : w.cell? ⟨g, 0, none⟩ = some (.slice A1 l1.length c1) := by rw [hg.cell]; rfl
  have k1 : w.cell? ⟨g, 1, none⟩ = some (.slice A2 l2.length c2) := by rw [hg.cell]; rfl
  have HG := Lib.hid hg
  have R1 := Lib.hid r1
  have R2 := Lib.hid r2
  have HW := Lib.hid (grow_any (l1.length + l2.length) (by omega) w)
  rw [Int.natCast_add] at HW
  rw [List.length_append]
  have hll : (l1 ++ l2).length = l1.length + l2.length := List.length_append
  have HLL := Lib.hid hll
  clear hg r1 r2 hll
  generalize l1.length = n1 at *
  generalize l2.length = n2 at *
  go_enter Try.func43, Try.ntmps43
  go_wp2
  refine wp_loop_rounds 3 ?_
  rw [rounds_succ]
  go_wp2
  rw [rounds_succ]
  go_wp2
  rw [rounds_succ]
  go_wp2_with fail
  refine HW.out.mono ?_
  rintro e w1 ⟨v, rfl, ho, hb⟩
  have hs1 := hb.size
  have HB := Lib.hid hb
  have k0' : w1.cell? ⟨g, 0, none⟩ = some (.slice A1 n1 c1) := (hb.cell HG.out.lt).trans k0
  have k1' : w1.cell? ⟨g, 1, none⟩ = some (.slice A2 n2 c2) := (hb.cell HG.out.lt).trans k1
  clear hb k0 k1
  go_wp2
  refine wp_loop_rounds 3 ?_
  rw [rounds_succ]
  go_wp2_with (first | (at_builtin; refine wpList_append_any _ rfl _ _ 33 rfl w.heap.size 5 i0 _ 1 1 Try.underlying33 hi0 hz0 hz1 hz2 rfl (by omega) _ _ _ rfl ho A1 n1 c1 (u8s l1) rfl (Gives.of_reads (R1.out.below HB.out) (u8s_one l1)) ?c1 ?c2 hs1 ?_))
  case c1 => unfold maxLen; omega
  case c2 => omega
  intro v2 w2 ho2 hg2
  have hb2 := HB.out.grown hg2 hs1 (fun k hk => (ho.lt k hk).1)
  have HB2 := Lib.hid hb2
  have hs2 := hb2.size
  have k1'' : w2.cell? ⟨g, 1, none⟩ = some (.slice A2 n2 c2) := (hb2.cell HG.out.lt).trans ((HB.out.cell HG.out.lt).symm.trans k1')
  clear hb2 hg2 ho k0' k1'
  go_wp2
  rw [rounds_succ]
  go_wp2_with (first | (at_builtin; refine wpList_append_any _ rfl _ _ 33 rfl w.heap.size 5 i0 _ 1 1 Try.underlying33 hi0 hz0 hz1 hz2 rfl (by omega) _ _ _ rfl ho2 A2 n2 c2 (u8s l2) rfl (Gives.of_reads (R2.out.below HB2.out) (u8s_one l2)) ?c1 ?c2 hs2 ?_))
  case c1 => unfold maxLen; omega
  case c2 => omega
  intro v3 w3 ho3 hg3
  have hb3 := HB2.out.grown hg3 hs2 (fun k hk => (ho2.lt k hk).1)
  have HB3 := Lib.hid hb3
  clear hb3 hg3 ho2 k1''
  have HO := Lib.hid ho3
  clear ho3
  go_wp2
  rw [rounds_succ]
  go_wp2
  go_ret
  have ho3 := HO.out
  rw [← u8s_append] at ho3
  obtain ⟨A, c, rfl, hr, hc⟩ := own_reads ho3
  exact ⟨A, c, rfl, hr, hc, HB3.out⟩
end Go.Proofs.Ytplbclbeccoegaa
