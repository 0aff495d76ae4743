/-
  Walk of the statement on nil disks.
-/
import Derived.Test.YtplbclbeccoegaaDiskNilW
namespace Go.Proofs.Ytplbclbeccoegaa
open Go.RowKit Go.Maps
theorem do_nil1 (kind : Nat) (hk : kind ≤ 255) (h6 : kind ≤ 6) (a b : ByteArray) (at_ : Int) (dA kA : Option Addr) (dn dc kn kc : Nat) (w : World) :
    Calls Try.prog 10 #[.pointer none, .agg #[.int .u8 (kind : Nat), .string a, .string b, .int .i64 at_, .slice dA dn dc, .slice kA kn kc]] w fun e w' => e = .returned (.int .i64 1) ∧ Below w.heap.size w w' := by
  have h := do_nil kind hk a b at_ dA kA dn dc kn kc w
  rw [if_pos h6] at h
  exact h
theorem do_nil0 (kind : Nat) (hk : kind ≤ 255) (h6 : ¬ kind ≤ 6) (a b : ByteArray) (at_ : Int) (dA kA : Option Addr) (dn dc kn kc : Nat) (w : World) :
    Calls Try.prog 10 #[.pointer none, .agg #[.int .u8 (kind : Nat), .string a, .string b, .int .i64 at_, .slice dA dn dc, .slice kA kn kc]] w fun e w' => e = .returned (.int .i64 0) ∧ Below w.heap.size w w' := by
  have h := do_nil kind hk a b at_ dA kA dn dc kn kc w
  rw [if_neg h6] at h
  exact h
set_option maxHeartbeats 1600000 in
set_option maxRecDepth 100000 in
theorem diskNil (x : ActM) (hk : x.kind ≤ 255) (hsm : ActSmall x 140737488355328) (w : World) (hok : ActOk w w.heap.size x) :
    Calls Try.prog 6 #[.agg #[.int .u8 (x.kind : Nat), .string x.a, .string x.b, .int .i64 x.at_, .slice x.dA x.dl.length x.dc, .slice x.kA x.kl.length x.kc]] w fun e w' => e = .returned (.bool true) ∧ Below w.heap.size w w' := by
  have HSM := Lib.hid hsm
  have HOK := Lib.hid hok
  clear hsm hok
  go_enter Try.func6, Try.ntmps6
  go_wp2_with fail
  refine (awake_any _).mono ?_
  rintro e w1 ⟨rfl, hb1⟩
  have hF := Blk.new w 36 #[.int .u8 (x.kind : Nat), .string x.a, .string x.b, .int .i64 x.at_, .slice x.dA x.dl.length x.dc, .slice x.kA x.kl.length x.kc]
  have hF1 := hF.below hb1 hF.lt
  have hb1' : Below w.heap.size w w1 := ((Below.refl _ _).alloc (Nat.le_refl _) _).trans (hb1.mono (by simp))
  have x0 : w1.cell? ⟨w.heap.size, 0, none⟩ = some (.int .u8 (x.kind : Nat)) := by rw [hF1.cell]; rfl
  have x1 : w1.cell? ⟨w.heap.size, 1, none⟩ = some (.string x.a) := by rw [hF1.cell]; rfl
  have x2 : w1.cell? ⟨w.heap.size, 2, none⟩ = some (.string x.b) := by rw [hF1.cell]; rfl
  have x3 : w1.cell? ⟨w.heap.size, 3, none⟩ = some (.int .i64 x.at_) := by rw [hF1.cell]; rfl
  have x4 : w1.cell? ⟨w.heap.size, 4, none⟩ = some (.slice x.dA x.dl.length x.dc) := by rw [hF1.cell]; rfl
  have x5 : w1.cell? ⟨w.heap.size, 5, none⟩ = some (.slice x.kA x.kl.length x.kc) := by rw [hF1.cell]; rfl
  have HF1 := Lib.hid hF1
  have HB1 := Lib.hid hb1'
  clear hF hF1 hb1 hb1'
  have hfew : Calls Try.prog 8 #[.slice (some ⟨w1.heap.size, 0, none⟩) 1 1, .int .i64 1] (w1.alloc (.cells #[.int .u8 (x.kind : Nat), .string x.a, .string x.b, .int .i64 x.at_, .slice x.dA x.dl.length x.dc, .slice x.kA x.kl.length x.kc] 36)) fun e w' => e = .returned (.bool (fewGo 1 0 0 [x])) ∧ Below (w1.alloc (.cells #[.int .u8 (x.kind : Nat), .string x.a, .string x.b, .int .i64 x.at_, .slice x.dA x.dl.length x.dc, .slice x.kA x.kl.length x.kc] 36)).heap.size (w1.alloc (.cells #[.int .u8 (x.kind : Nat), .string x.a, .string x.b, .int .i64 x.at_, .slice x.dA x.dl.length x.dc, .slice x.kA x.kl.length x.kc] 36)) w' := by
    have hN := Blk.new w1 36 #[.int .u8 (x.kind : Nat), .string x.a, .string x.b, .int .i64 x.at_, .slice x.dA x.dl.length x.dc, .slice x.kA x.kl.length x.kc]
    refine few_any (some ⟨w1.heap.size, 0, none⟩) 1 [x] 1 (by omega) _ _ ⟨rfl, fun _ => ⟨_, rfl, hN.lt, fun j u hj => ?_⟩⟩ (fun y hy => ?_) (fun y hy => ?_) (by simp)
    · have e : (⟨w1.heap.size, 0, none⟩ : Addr).add j = ⟨w1.heap.size, j, none⟩ := by unfold Addr.add; split <;> simp_all
      rw [e, hN.cell]
      rw [← hj]
      simp [actCells, ActM.cells]
    · obtain rfl : y = x := by simpa using hy
      have h1 := (HOK.out.below HB1.out)
      have h2 := h1.below (w' := w1.alloc (.cells #[.int .u8 (y.kind : Nat), .string y.a, .string y.b, .int .i64 y.at_, .slice y.dA y.dl.length y.dc, .slice y.kA y.kl.length y.kc] 36)) (((Below.refl _ _).alloc (Nat.le_refl _) _).mono HB1.out.size)
      exact ⟨h2.kind, h2.a, h2.b, h2.at_, h2.dlc, h2.dr.more (by have := HB1.out.size; simp; omega), h2.klc, h2.kv, h2.kr.more (by have := HB1.out.size; simp; omega)⟩
    · obtain rfl : y = x := by simpa using hy
      exact HSM.out
  have HFEW := Lib.hid hfew
  clear hfew
  go_wp2_with fail
  refine HFEW.out.mono ?_
  rintro e w2 ⟨rfl, hb2⟩
  have hb2' : Below w1.heap.size w1 w2 := ((Below.refl _ _).alloc (Nat.le_refl _) _).trans (hb2.mono (by simp))
  have HF2 := Lib.hid (HF1.out.below hb2' HF1.out.lt)
  have HB2 := Lib.hid (HB1.out.trans (hb2'.mono HB1.out.size))
  clear hb2 hb2' HFEW x0 x1 x2 x3 x4 x5
  cases hfg : fewGo 1 0 0 [x] with
  | false =>
    clear hfg
    go_wp2_with fail
    refine (awake_any _).mono ?_
    rintro e w3 ⟨rfl, hb3⟩
    have HB3 := Lib.hid (HB2.out.trans (hb3.mono HB2.out.size))
    clear hb3
    go_wp2
    go_ret
    exact ⟨rfl, HB3.out⟩
  | true =>
    clear hfg
    have x0 : w2.cell? ⟨w.heap.size, 0, none⟩ = some (.int .u8 (x.kind : Nat)) := by rw [HF2.out.cell]; rfl
    have x1 : w2.cell? ⟨w.heap.size, 1, none⟩ = some (.string x.a) := by rw [HF2.out.cell]; rfl
    have x2 : w2.cell? ⟨w.heap.size, 2, none⟩ = some (.string x.b) := by rw [HF2.out.cell]; rfl
    have x3 : w2.cell? ⟨w.heap.size, 3, none⟩ = some (.int .i64 x.at_) := by rw [HF2.out.cell]; rfl
    have x4 : w2.cell? ⟨w.heap.size, 4, none⟩ = some (.slice x.dA x.dl.length x.dc) := by rw [HF2.out.cell]; rfl
    have x5 : w2.cell? ⟨w.heap.size, 5, none⟩ = some (.slice x.kA x.kl.length x.kc) := by rw [HF2.out.cell]; rfl
    by_cases h6 : x.kind ≤ 6
    · go_wp2_with fail
      refine (do_nil1 x.kind hk h6 x.a x.b x.at_ x.dA x.kA _ _ _ _ _).mono ?_
      rintro e w3 ⟨rfl, hb3⟩
      have hF3 := HF2.out.below hb3 HF2.out.lt
      have HB3 := Lib.hid (HB2.out.trans (hb3.mono HB2.out.size))
      have HF3 := Lib.hid hF3
      have y1 : w3.cell? ⟨w.heap.size, 1, none⟩ = some (.string x.a) := by rw [hF3.cell]; rfl
      clear hF3 hb3 x0 x1 x2 x3 x4 x5
      go_wp2_with fail
      refine (read_nil x.a _).mono ?_
      rintro e w4 ⟨rfl, hb4⟩
      have hF4 := HF3.out.below hb4 HF3.out.lt
      have HB4 := Lib.hid (HB3.out.trans (hb4.mono HB3.out.size))
      have z0 : w4.cell? ⟨w.heap.size, 0, none⟩ = some (.int .u8 (x.kind : Nat)) := by rw [hF4.cell]; rfl
      have z1 : w4.cell? ⟨w.heap.size, 1, none⟩ = some (.string x.a) := by rw [hF4.cell]; rfl
      have HF4 := Lib.hid hF4
      clear hF4 hb4 y1
      go_wp2_with fail
      refine (names_nil _).mono ?_
      rintro e w' ⟨rfl, rfl⟩
      go_wp2_with fail
      refine (room_nil _).mono ?_
      rintro e w' ⟨rfl, rfl⟩
      go_wp2_with fail
      refine (safe_nil x.a _).mono ?_
      rintro e w5 ⟨rfl, hb5⟩
      have HB5 := Lib.hid (HB4.out.trans (hb5.mono HB4.out.size))
      clear hb5 z0 z1
      go_wp2_with fail
      refine (lost_nil _).mono ?_
      rintro e w' ⟨rfl, rfl⟩
      go_wp2_with fail
      refine (clone_nil' _).mono ?_
      rintro e w' ⟨rfl, rfl⟩
      go_wp2
      go_ret
      exact ⟨rfl, HB5.out⟩
    · go_wp2_with fail
      refine (do_nil0 x.kind hk h6 x.a x.b x.at_ x.dA x.kA _ _ _ _ _).mono ?_
      rintro e w3 ⟨rfl, hb3⟩
      have hF3 := HF2.out.below hb3 HF2.out.lt
      have HB3 := Lib.hid (HB2.out.trans (hb3.mono HB2.out.size))
      have HF3 := Lib.hid hF3
      have y1 : w3.cell? ⟨w.heap.size, 1, none⟩ = some (.string x.a) := by rw [hF3.cell]; rfl
      clear hF3 hb3 x0 x1 x2 x3 x4 x5
      go_wp2_with fail
      refine (read_nil x.a _).mono ?_
      rintro e w4 ⟨rfl, hb4⟩
      have hF4 := HF3.out.below hb4 HF3.out.lt
      have HB4 := Lib.hid (HB3.out.trans (hb4.mono HB3.out.size))
      have z0 : w4.cell? ⟨w.heap.size, 0, none⟩ = some (.int .u8 (x.kind : Nat)) := by rw [hF4.cell]; rfl
      have z1 : w4.cell? ⟨w.heap.size, 1, none⟩ = some (.string x.a) := by rw [hF4.cell]; rfl
      have HF4 := Lib.hid hF4
      clear hF4 hb4 y1
      have h7 : (6 : Int) < (x.kind : Nat) := by omega
      go_wp2_with fail
      refine (names_nil _).mono ?_
      rintro e w' ⟨rfl, rfl⟩
      go_wp2_with fail
      refine (room_nil _).mono ?_
      rintro e w' ⟨rfl, rfl⟩
      go_wp2_with fail
      refine (safe_nil x.a _).mono ?_
      rintro e w5 ⟨rfl, hb5⟩
      have HB5 := Lib.hid (HB4.out.trans (hb5.mono HB4.out.size))
      clear hb5 z0 z1
      go_wp2_with fail
      refine (lost_nil _).mono ?_
      rintro e w' ⟨rfl, rfl⟩
      go_wp2_with fail
      refine (clone_nil' _).mono ?_
      rintro e w' ⟨rfl, rfl⟩
      go_wp2
      go_ret
      exact ⟨rfl, HB5.out⟩
end Go.Proofs.Ytplbclbeccoegaa
