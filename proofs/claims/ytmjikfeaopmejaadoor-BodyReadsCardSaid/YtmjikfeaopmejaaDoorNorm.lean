/-
  name.plain, name.Norm, walked.
-/
import Derived.Test.YtmjikfeaopmejaaDoorText
import Derived.Test.YtmjikfeaopmejaaDoorShelf
namespace Go.Proofs.YtmjikfeaopmejaaDoor
open Go.RowKit
def plainI (c : Int) : Bool := decide (97 ≤ c ∧ c ≤ 122 ∨ 65 ≤ c ∧ c ≤ 90 ∨ 48 ≤ c ∧ c ≤ 57 ∨ c = 46 ∨ c = 95 ∨ c = 45)
set_option maxHeartbeats 400000 in
theorem plain_any (c : Int) (h0 : 0 ≤ c) (h1 : c ≤ 255) (w : World) :
    Calls Tryd.prog 37 #[.int .u8 c] w fun e w' => e = .returned (.bool (plainI c)) ∧ w = w' := by
  go_enter Tryd.func37, Tryd.ntmps37
  go_wp2
  all_goals go_ret
  all_goals exact ⟨ret_bool (by unfold plainI; rw [Bool.eq_iff_iff]; simp <;> omega), rfl⟩
def plainB (c : UInt8) : Bool := plainI (c.toNat : Int)
def okPartL (p : List UInt8) : Bool := !(p == []) && p.all plainB
/-- parts with a slash between -/
def nameOK (l : List UInt8) : Bool := (splitC 47 l).all okPartL
def okPart (p : ByteArray) : Bool := okPartL p.data.toList
def slash : ByteArray := ⟨#[47]⟩
def inboxS : ByteArray := ⟨#[73, 78, 66, 79, 88]⟩
/-- the name that a text is -/
def normV (s : ByteArray) : ByteArray × Bool :=
  if 60 < s.size then (⟨#[]⟩, false) else if nameOK s.data.toList then (if (Lib.toUpperA s.data.toList == [73, 78, 66, 79, 88]) = true then (inboxS, true) else (s, true)) else (⟨#[]⟩, false)
theorem parts_ok (s : ByteArray) : (splitsB 47 s).all okPart = nameOK s.data.toList := by
  unfold nameOK; rw [← splitsB_data, List.all_map]; rfl
theorem normV_bad (s q : ByteArray) (hs : s.size ≤ 60) (k : Nat) (h : (splitsB 47 s)[k]? = some q) (hq : okPart q = false) : normV s = (⟨#[]⟩, false) := by
  have hm : q ∈ splitsB 47 s := List.mem_of_getElem? h
  have : nameOK s.data.toList = false := by
    rw [← parts_ok, List.all_eq_false]; exact ⟨q, hm, by simp [hq]⟩
  unfold normV
  rw [if_neg (by omega), this]; rfl
theorem normV_good (s : ByteArray) (hs : s.size ≤ 60) (h : nameOK s.data.toList = true) : normV s = (if (Lib.toUpperA s.data.toList == [73, 78, 66, 79, 88]) = true then (inboxS, true) else (s, true)) := by
  unfold normV
  rw [if_neg (by omega), if_pos h]
theorem okPart_bad (q : ByteArray) (j : Nat) (h : j < q.size) (hp : plainI (q[j].toNat : Int) = false) : okPart q = false := by
  unfold okPart okPartL
  have : q.data.toList.all plainB = false := by
    rw [List.all_eq_false]
    exact ⟨q[j], by rw [show q[j] = q.data.toList[j]'(by simpa using h) from rfl]; exact List.getElem_mem _, by unfold plainB; simp [hp]⟩
  rw [this]; simp
theorem plain_low (c : UInt8) (h : plainB c = true) : c.toNat < 128 := by
  unfold plainB plainI at h; simp at h; omega
theorem nameOK_ascii (l : List UInt8) (h : nameOK l = true) : ∀ (j : Nat) (b : UInt8), l[j]? = some b → b.toNat < 128 := by
  intro j b hb
  rcases mem_splitC 47 b l (List.mem_of_getElem? hb) with rfl | ⟨p, hp, hbp⟩
  · decide
  · have h1 := List.all_eq_true.1 h p hp
    unfold okPartL at h1
    simp only [Bool.and_eq_true] at h1
    exact plain_low b (List.all_eq_true.1 h1.2 b hbp)
set_option maxHeartbeats 1000000 in
theorem norm_any (s : ByteArray) (m : Int) (w : World) (hs : s.size ≤ 60) (hm : w.cell? ⟨2, 0, none⟩ = some (.int .i64 m)) :
    Calls Tryd.prog 32 #[.string s] w fun e w' => e = .returned (.tuple #[.string (normV s).1, .bool (normV s).2]) ∧ Below w.heap.size w w' := by
  have hcl := Lib.countB_le slash (by decide) s.size s (Nat.le_refl _)
  go_enter Tryd.func32, Tryd.ntmps32
  go_wp2_with fail
  refine (Tryd.strings_Split s slash m w (by omega) hm (by decide)).mono ?_
  rintro e w1 ⟨rfl, hw1⟩
  have hb1 : Below w.heap.size w w1 := by rw [hw1]; exact (Below.refl _ _).alloc (Nat.le_refl _) _
  have hk1 : Hid (Blk w1 w.heap.size 9 ((splitsB 47 s).map Value.string).toArray) := by rw [hw1]; exact Blk.new _ _ _
  clear hw1 hm
  have hpl : (splitsB 47 s).length = Lib.countB s slash + 1 := splitsB_length 47 s
  have Hpl := Lib.hid hpl; clear hpl
  go_wp2_with fail
  generalize hn : Lib.countB s slash = n at *
  clear hn
  go_loop [13] (fun i => ∃ k : Nat, i = .int .i64 k ∧ k ≤ n + 1 ∧ Hid (((splitsB 47 s).take k).all okPart = true)) (fun i => n + 1 - (intOf i).toNat)
  case atStart => exact ⟨0, rfl, by omega, rfl⟩
  case round =>
    obtain ⟨k, rfl, hk, hall⟩ := hrel
    by_cases hlt : k < n + 1
    · obtain ⟨q, hq⟩ : ∃ q, (splitsB 47 s)[k]? = some q := ⟨(splitsB 47 s)[k]'(by rw [Hpl.out]; exact hlt), List.getElem?_eq_getElem (by rw [Hpl.out]; exact hlt)⟩
      have hc := hk1.out.cell k
      rw [show (((splitsB 47 s).map Value.string).toArray)[k]? = some (.string q) from by simp [hq]] at hc
      have Hq := Lib.hid hq; clear hq
      have hqs : q.size ≤ 60 := by have := splitsB_size 47 s q (List.mem_of_getElem? Hq.out); omega
      rcases Bool.eq_false_or_eq_true q.toList.isEmpty with he | he
      · have hv := normV_bad s q hs k Hq.out (by unfold okPart okPartL; rw [← ByteArray.toList_eq]; simp [List.isEmpty_iff.1 he])
        have Hv := Lib.hid hv; clear hv
        go_wp2
        go_ret2
        exact ⟨by rw [Hv.out]; rfl, hb1⟩
      · go_wp2
        go_loop [21] (fun i => ∃ j : Nat, i = .int .i64 j ∧ j ≤ q.size ∧ Hid ((q.data.toList.take j).all plainB = true)) (fun i => q.size - (intOf i).toNat)
        case atStart => exact ⟨0, rfl, by omega, rfl⟩
        case round =>
          obtain ⟨j, rfl, hj, hpl⟩ := hrel
          by_cases hjl : j < q.size
          · rcases Bool.eq_false_or_eq_true (plainI (q[j].toNat : Int)) with hp | hp
            · go_wp2_with (go_at_call 37; refine (plain_any _ (by omega) (by have := q[j].toNat_lt; omega) _).mono ?_; rintro e w' ⟨rfl, rfl⟩; rw [hp])
              go_round
              case rel =>
                refine ⟨j + 1, by go_num, by omega, ?_⟩
                have h1 := hpl.out
                show (q.data.toList.take (j + 1)).all plainB = true
                rw [take_snoc q j hjl]; simp only [List.all_append, h1, Bool.true_and, List.all_cons, List.all_nil, Bool.and_true]; exact hp
              case measure => simp [intOf] <;> omega
            · have hv := normV_bad s q hs k Hq.out (okPart_bad q j hjl hp)
              have Hv := Lib.hid hv; clear hv
              go_wp2_with (go_at_call 37; refine (plain_any _ (by omega) (by have := q[j].toNat_lt; omega) _).mono ?_; rintro e w' ⟨rfl, rfl⟩; rw [hp])
              go_ret2
              exact ⟨by rw [Hv.out]; rfl, hb1⟩
          · obtain rfl : j = q.size := by omega
            go_wp2
            go_round
            case rel =>
              refine ⟨k + 1, by go_num, by omega, all_snoc_get _ _ _ _ Hq.out hall.out ?_⟩
              have h1 := hpl.out
              rw [toList_take q _ rfl] at h1
              unfold okPart okPartL
              rw [h1, ← ByteArray.toList_eq]
              cases hq : q.toList with
              | nil => rw [hq] at he; cases he
              | cons a b => rfl
            case measure => simp [intOf] <;> omega
    · have hall' : nameOK s.data.toList = true := by
        have := hall.out
        rw [List.take_of_length_le (by rw [Hpl.out]; omega), parts_ok] at this
        exact this
      have hasc := nameOK_ascii _ hall'
      have hv := normV_good s hs hall'
      have Hv := Lib.hid hv; clear hv hall'
      have Ha := Lib.hid hasc; clear hasc
      rcases Bool.eq_false_or_eq_true (Lib.toUpperA s.data.toList == [73, 78, 66, 79, 88]) with he | he
      · have Hw : Hid (normV s = (inboxS, true)) := by rw [Hv.out, if_pos he]; rfl
        clear Hv
        go_wp2_with fail
        refine (Tryd.strings_ToUpper_ascii s w1 (by omega) Ha.out).mono ?_
        rintro e w2 ⟨rfl, hb2⟩
        go_wp2
        go_ret2
        exact ⟨by rw [Hw.out]; rfl, hb1.trans (hb2.mono hb1.size)⟩
      · have Hw : Hid (normV s = (s, true)) := by rw [Hv.out, if_neg (by rw [he]; decide)]; rfl
        clear Hv
        go_wp2_with fail
        refine (Tryd.strings_ToUpper_ascii s w1 (by omega) Ha.out).mono ?_
        rintro e w2 ⟨rfl, hb2⟩
        go_wp2
        go_ret2
        exact ⟨by rw [Hw.out]; rfl, hb1.trans (hb2.mono hb1.size)⟩
theorem norm_long (s : ByteArray) (w : World) (hs : 60 < s.size) (hl : s.size ≤ 9223372036854775807) :
    Calls Tryd.prog 32 #[.string s] w fun e w' => e = .returned (.tuple #[.string (normV s).1, .bool (normV s).2]) ∧ Below w.heap.size w w' := by
  have Hv : Hid (normV s = (⟨#[]⟩, false)) := by show normV s = _; unfold normV; rw [if_pos hs]
  go_enter Tryd.func32, Tryd.ntmps32
  go_wp2
  go_ret2
  exact ⟨by rw [Hv.out]; rfl, Below.refl _ _⟩
/-- name.Norm at every text -/
theorem norm_all (s : ByteArray) (m : Int) (w : World) (hl : s.size ≤ 9223372036854775807) (hm : w.cell? ⟨2, 0, none⟩ = some (.int .i64 m)) :
    Calls Tryd.prog 32 #[.string s] w fun e w' => e = .returned (.tuple #[.string (normV s).1, .bool (normV s).2]) ∧ Below w.heap.size w w' := by
  by_cases hs : s.size ≤ 60
  · exact norm_any s m w hs hm
  · exact norm_long s w (by omega) hl
end Go.Proofs.YtmjikfeaopmejaaDoor
