/-
  Walk: is a text a name, as it should be (the document's)?
-/
import Derived.Test.YtmjikfeaopmejaaDoorNormSame
import Derived.Test.YtmjikfeaopmejaaDoorU8
namespace Go.Proofs.YtmjikfeaopmejaaDoor
open Go.RowKit
def nameIs (s : ByteArray) : Bool := (normV s).2 && ((normV s).1.toList == s.toList)
theorem nameIs_size {s : ByteArray} (h : nameIs s = true) : s.size ≤ 60 := by
  unfold nameIs at h
  simp only [Bool.and_eq_true, beq_iff_eq] at h
  have h2 := h.2
  rw [ByteArray.toList_eq, ByteArray.toList_eq] at h2
  have h3 := normV_size s
  have : (normV s).1.size = s.size := by
    have := congrArg List.length h2
    simpa using this
  omega
/-- the table's cell that the search reads -/
def MaxCell (w : World) : Prop := ∃ m, w.cell? ⟨2, 0, none⟩ = some (.int .i64 m)
theorem MaxCell.below {w w' : World} {B : Nat} (h : MaxCell w) (hg : 2 < B) (hb : Below B w w') : MaxCell w' := by
  obtain ⟨m, hm⟩ := h
  exact ⟨m, (hb.cell hg).trans hm⟩
set_option maxRecDepth 100000 in
theorem refNamed_any (s : ByteArray) (hs : s.size ≤ 9223372036854775807) (w : World) :
    Calls Tryd.prog 17 #[.string s] w fun e w' => e = .returned (.bool (nameIs s)) ∧ Below w.heap.size w w' := by
  have R := Lib.hid (refNorm_any s hs w)
  rw [← norm_same] at R
  unfold nameIs
  generalize (normV s).1 = t at *
  generalize (normV s).2 = ok at *
  go_enter Tryd.func17, Tryd.ntmps17
  go_wp2_with fail
  refine R.out.mono ?_
  rintro e w1 ⟨rfl, n, rfl⟩
  have hb := below_drewN (Below.refl w.heap.size w) n
  generalize w.drewN n = w1 at *
  cases ok with
  | true =>
    go_wp2
    go_ret
    exact ⟨rfl, hb⟩
  | false =>
    go_wp2
    go_ret
    exact ⟨rfl, hb⟩
end Go.Proofs.YtmjikfeaopmejaaDoor
