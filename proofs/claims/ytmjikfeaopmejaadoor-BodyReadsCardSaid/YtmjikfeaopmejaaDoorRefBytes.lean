/-
  Walk of the document's numbers in bytes.
-/
import Derived.Test.YtmjikfeaopmejaaDoorCodecLaw
import Derived.Test.YtmjikfeaopmejaaDoorU8
namespace Go.Proofs.YtmjikfeaopmejaaDoor
open Go.RowKit
theorem u8s_set (l : List UInt8) (i : Nat) (c : UInt8) : u8s (l.set i c) = (u8s l).set i (.int .u8 ((c.toNat : Nat) : Int)) := by simp [u8s, List.map_set]
theorem zeros_be (m j v : Nat) : (List.replicate (m + 1) (0 : UInt8) ++ be j v).set m (UInt8.ofNat (v / 256 ^ j)) = List.replicate m 0 ++ be (j + 1) v := by
  rw [List.replicate_succ', List.append_assoc, List.set_append_right _ _ (by simp)]
  simp [be]
theorem made8 (n : Nat) : madeCells (Value.int IntKind.u8 0).cells n = (u8s (List.replicate n 0)).toArray := by
  unfold madeCells u8s
  apply Array.ext
  · simp
  · intro i h1 h2; simp [Value.cells, Nat.mod_one]
set_option maxRecDepth 100000 in
theorem refBytes_any (v n : Nat) (hv : v < 18446744073709551616) (hn : n ≤ 1000) (w : World) :
    Calls Tryd.prog 19 #[.int .u64 (v : Nat), .int .i64 (n : Nat)] w fun e w' => ∃ r, e = .returned r ∧ w'.ownsRow w.heap.size 5 1 r n (u8s (be n v)) ∧ Below w.heap.size w w' := by
  obtain ⟨i0, hi0, hz0, hz1, hz2⟩ := info_parts u8_info
  have hmk := run_make_rowN (P := Tryd.prog) 22 5 i0 (.int .u8 0) Tryd.underlying22 hi0 hz0 .i64 .i64 n n (Nat.le_refl _) (by rw [hz2]; omega) (by omega) w
  rw [hz1, Nat.mul_one, made8] at hmk
  have hown : (w.alloc (.cells (u8s (List.replicate n 0)).toArray 5)).ownsRow w.heap.size 5 1 (.slice (some ⟨w.heap.size, 0, none⟩) n n) n (u8s (List.replicate n 0 ++ be 0 v)) := by
    have := World.ownsRow_lit (base := w.heap.size) (e := 5) (size := 1) w (u8s (List.replicate n 0)).toArray n (Nat.le_refl _) (by unfold maxLen; omega) (by simp [u8s])
    simpa [be] using this
  have HO := Lib.hid hown
  have HB := Lib.hid ((Below.refl w.heap.size w).alloc (Nat.le_refl _) (.cells (u8s (List.replicate n 0)).toArray 5))
  obtain ⟨g, hg⟩ : ∃ g, w.heap.size = g := ⟨_, rfl⟩
  rw [hg] at HO
  have HG := Lib.hid hg
  clear hown
  go_enter Tryd.func19, Tryd.ntmps19
  go_wp2
  clear hg hmk
  go_loopw [0, 6] (fun z i wr => ∃ (m j vj : Nat), m + j = n ∧ i = .int .i64 ((m : Int) - 1) ∧ z = .int .u64 (vj : Nat) ∧ Hid (vj = v / 256 ^ j) ∧ Hid (wr.ownsRow g 5 1 (.slice (some ⟨g, 0, none⟩) n n) n (u8s (List.replicate m 0 ++ be j v))) ∧ Hid (Below w.heap.size w wr)) (fun _ i _ => (intOf i + 1).toNat)
  case atStart => exact ⟨n, 0, v, by omega, rfl, rfl, by show v = _; simp, HO, HB⟩
  case round =>
    obtain ⟨m, j, vj, hmj, rfl, rfl, hvj, ho, hb⟩ := hrel
    rcases m with _ | m
    · go_wp2
      go_ret
      have hj : j = n := by omega
      subst hj
      refine ⟨_, rfl, ?_, hb.out⟩
      have := ho.out
      rw [HG.out]
      simpa using this
    · have hc0 : wr.cell? ⟨g, m, none⟩ = some (.int .u8 0) := by
        rw [ho.out.cellAt m (by omega), u8s_get, List.getElem?_append_left (by simp)]
        simp
      have hf0 := ho.out.frozenAt m
      have hvl : vj < 18446744073709551616 := by rw [hvj.out]; exact Nat.lt_of_le_of_lt (Nat.div_le_self _ _) hv
      have hst := (ho.out.stored m (.int .u8 (((UInt8.ofNat (v / 256 ^ j)).toNat : Nat) : Int)))
      rw [← u8s_set, zeros_be, ← hvj.out] at hst
      have hs8 : (((UInt8.ofNat vj).toNat : Nat) : Int) = (vj : Int) % 256 := by simp
      rw [hs8] at hst
      have HS := Lib.hid hst.1
      have hb2 := hb.out.grown hst.2 (by have := HB.out.size; exact hb.out.size) (fun k hk => by injection hk with hk; have := HG.out; omega)
      have HB2 := Lib.hid hb2
      have HV2 : Hid (vj / 256 = v / 256 ^ (j + 1)) := by rw [hvj.out, Nat.div_div_eq_div_mul, ← Nat.pow_succ]; exact rfl
      have e : (((m + 1 : Nat) : Int) - 1) = (m : Int) := by omega
      have m0 : (0 : Int) ≤ (m : Int) := by omega
      have m1 : (m : Int) < (n : Int) := by omega
      rw [e]
      clear hst hb2 hvj e hs8
      go_wp2
      go_roundw
      case rel => exact ⟨m, j + 1, vj / 256, by omega, by first | go_num | rfl, by rw [Int.natCast_ediv]; rfl, HV2, HS, HB2⟩
      case measure => simp [intOf]
end Go.Proofs.YtmjikfeaopmejaaDoor
