/-
  Walks of the document's disk: At, Room, burns.
-/
import Derived.Test.YtplbclbeccoegaaRefMem
import Derived.Test.YtplbclbeccoegaaDiskRename
import Derived.Deep.RegionHeld3
namespace Go.Proofs.Ytplbclbeccoegaa
open Go.RowKit Go.Maps
def Same (a b : World) : Prop := b = a
/-- nothing but one block has turned -/
def Only (q : Nat) (w w' : World) : Prop := ∀ i, i < w.heap.size → i ≠ q → w'.heap[i]? = w.heap[i]?
section
variable {w : World} {B q cap : Nat} {v : Value} {es : List (Key × FV)} {fuse : Int} {lost : Bool}
theorem key_ne {x : Key} {s : ByteArray} (h : x ≠ s.data.toList) : (x == s.toList) = false := by
  rw [ByteArray.toList_eq]
  simpa using h
theorem key_eq (s : ByteArray) : (s.data.toList == s.toList) = true := by rw [ByteArray.toList_eq]; simp
theorem up_ne {l : List (Key × FV)} (hup : Up l) {n i : Nat} {x y : Key × FV} (hx : l[n]? = some x) (hy : l[i]? = some y) (hi : i < n) : y.1 ≠ x.1 := by
  have hn : n < l.length := (List.getElem?_eq_some_iff.1 hx).1
  have := List.pairwise_iff_getElem.1 hup i n (by omega) hn hi
  rw [(List.getElem?_eq_some_iff.1 hx).2, (List.getElem?_eq_some_iff.1 hy).2] at this
  exact before_ne this
theorem get_ne_of_none {l : List (Key × FV)} {k : Key} (h : fget k l = none) {i : Nat} {y : Key × FV} (hup : Up l) (hy : l[i]? = some y) : y.1 ≠ k := fun e => by
  subst e
  rw [fget_of_mem hup (List.mem_of_getElem? hy)] at h
  cases h
set_option maxRecDepth 100000 in
theorem at_some (h : RefAt w B q v es cap fuse lost) (s : ByteArray) {n : Nat} {f : FV} (hn : es[n]? = some (s.data.toList, f)) (hlen : es.length ≤ 1000000) :
    Calls Try.prog 28 #[.pointer (some ⟨q, 0, none⟩), .string s] w fun e w' => e = .returned (.int .i64 (n : Nat)) ∧ w' = w := by
  obtain ⟨A, c, rfl, hr, hc⟩ := h.row.reads
  have c1 := h.c1
  have hup := Lib.hid h.up
  have HR := Lib.hid hr
  clear h hr
  have hnl : n < es.length := (List.getElem?_eq_some_iff.1 hn).1
  go_enter Try.func28, Try.ntmps28
  go_wp2
  go_loopw [11] (fun i wr => ∃ k : Nat, i = .int .i64 k ∧ k ≤ n ∧ Same w wr) (fun i _ => n - (intOf i).toNat)
  case atStart => exact ⟨0, rfl, by omega, rfl⟩
  case round =>
    obtain ⟨k, rfl, hk, hw⟩ := hrel
    have hw' : w = wr := Eq.symm hw
    have HW : Hid (wr = w) := hw
    rw [hw'] at c1
    clear hw
    obtain ⟨x, hx⟩ : ∃ x, es[k]? = some x := ⟨_, List.getElem?_eq_getElem (by omega)⟩
    obtain ⟨ad, rfl, hab, hcs⟩ := HR.out.2 (by omega)
    obtain ⟨k0, _, _, _⟩ := file_at hcs hx
    rw [hw'] at k0
    clear hw'
    by_cases hlt : k < n
    · have hne := key_ne (up_ne hup.out hn hx hlt)
      clear hcs hx hn
      go_wp2
      go_roundw
      case rel => exact ⟨k + 1, by go_num, by omega, HW.out⟩
      case measure => simp [intOf]; omega
    · obtain rfl : k = n := by omega
      obtain rfl : x = (s.data.toList, f) := by rw [hx] at hn; exact Option.some.inj hn
      have he := key_eq s
      clear hcs hx hn
      go_wp2
      go_ret
      exact ⟨rfl, HW.out⟩
set_option maxRecDepth 100000 in
theorem at_none (h : RefAt w B q v es cap fuse lost) (s : ByteArray) (hn : fget s.data.toList es = none) (hlen : es.length ≤ 1000000) :
    Calls Try.prog 28 #[.pointer (some ⟨q, 0, none⟩), .string s] w fun e w' => e = .returned (.int .i64 (-1)) ∧ w' = w := by
  obtain ⟨A, c, rfl, hr, hc⟩ := h.row.reads
  have c1 := h.c1
  have hup := Lib.hid h.up
  have HR := Lib.hid hr
  clear h hr
  go_enter Try.func28, Try.ntmps28
  go_wp2
  go_loopw [11] (fun i wr => ∃ k : Nat, i = .int .i64 k ∧ k ≤ es.length ∧ Same w wr) (fun i _ => es.length - (intOf i).toNat)
  case atStart => exact ⟨0, rfl, by omega, rfl⟩
  case round =>
    obtain ⟨k, rfl, hk, hw⟩ := hrel
    have hw' : w = wr := Eq.symm hw
    have HW : Hid (wr = w) := hw
    rw [hw'] at c1
    clear hw
    by_cases hlt : k < es.length
    · obtain ⟨x, hx⟩ : ∃ x, es[k]? = some x := ⟨_, List.getElem?_eq_getElem (by omega)⟩
      obtain ⟨ad, rfl, hab, hcs⟩ := HR.out.2 (by omega)
      obtain ⟨k0, _, _, _⟩ := file_at hcs hx
      rw [hw'] at k0
      clear hw'
      have hne := key_ne (get_ne_of_none hn hup.out hx)
      clear hcs hx hn
      go_wp2
      go_roundw
      case rel => exact ⟨k + 1, by go_num, by omega, HW.out⟩
      case measure => simp [intOf]; omega
    · obtain rfl : k = es.length := by omega
      go_wp2
      go_ret
      exact ⟨rfl, HW.out⟩
theorem used_take_succ : ∀ {l : List (Key × FV)} {k : Nat} {x : Key × FV}, l[k]? = some x → used (fmap FV.m (l.take (k + 1))) = used (fmap FV.m (l.take k)) + x.2.m.b.length
  | y :: r, 0, x, h => by injection h with h; subst h; simp [fmap, used]
  | y :: r, k + 1, x, h => by
    have ih := used_take_succ (l := r) (k := k) (x := x) h
    simp only [List.take_succ_cons]
    show y.2.m.b.length + used (fmap FV.m (r.take (k + 1))) = y.2.m.b.length + used (fmap FV.m (r.take k)) + _
    omega
theorem used_take_le (l : List (Key × FV)) (k : Nat) : used (fmap FV.m (l.take k)) ≤ used (fmap FV.m l) := by
  induction l generalizing k with
  | nil => simp
  | cons y r ih =>
    cases k with
    | zero => simp [fmap, used]
    | succ k =>
      have := ih k
      simp only [List.take_succ_cons]
      show y.2.m.b.length + used (fmap FV.m (r.take k)) ≤ y.2.m.b.length + used (fmap FV.m r)
      omega
set_option maxRecDepth 100000 in
theorem refRoom_at (h : RefAt w B q v es cap fuse lost) (hcap : cap ≤ 4194304) (hused : used (fmap FV.m es) ≤ cap) (hlen : es.length ≤ 1000000) :
    Calls Try.prog 30 #[.pointer (some ⟨q, 0, none⟩)] w fun e w' => e = .returned (.int .i64 ((cap - used (fmap FV.m es) : Nat) : Int)) ∧ w' = w := by
  obtain ⟨A, c, rfl, hr, hc⟩ := h.row.reads
  have c0 := h.c0
  have c1 := h.c1
  have HR := Lib.hid hr
  clear h hr
  go_enter Try.func30, Try.ntmps30
  go_wp2
  go_loopw [3, 14] (fun m i wr => ∃ k : Nat, i = .int .i64 k ∧ m = .int .i64 ((cap - used (fmap FV.m (es.take k)) : Nat) : Int) ∧ k ≤ es.length ∧ Same w wr) (fun _ i _ => es.length - (intOf i).toNat)
  case atStart => exact ⟨0, rfl, rfl, by omega, rfl⟩
  case round =>
    obtain ⟨k, rfl, rfl, hk, hw⟩ := hrel
    have hw' : w = wr := Eq.symm hw
    have HW : Hid (wr = w) := hw
    rw [hw'] at c1
    clear hw
    by_cases hlt : k < es.length
    · obtain ⟨x, hx⟩ : ∃ x, es[k]? = some x := ⟨_, List.getElem?_eq_getElem (by omega)⟩
      obtain ⟨ad, rfl, hab, hcs⟩ := HR.out.2 (by omega)
      obtain ⟨_, k1, _, _⟩ := file_at hcs hx
      rw [hw'] at k1
      clear hw'
      have hu := used_take_succ hx
      have hl := used_take_le es (k + 1)
      clear hcs hx
      have he : ((cap - used (fmap FV.m (es.take (k + 1))) : Nat) : Int) = ((cap - used (fmap FV.m (es.take k)) : Nat) : Int) - (x.2.m.b.length : Nat) := by omega
      have hb1 : (cap - used (fmap FV.m (es.take k)) : Nat) ≤ 4194304 := by omega
      have hb2 : x.2.m.b.length ≤ 4194304 := by omega
      have HE := Lib.hid he
      clear he hu hl
      generalize (cap - used (fmap FV.m (es.take k)) : Nat) = u at *
      generalize x.2.m.b.length = z at *
      go_wp2
      go_roundw
      case rel => exact ⟨k + 1, by go_num, by rw [HE.out], by omega, HW.out⟩
      case measure => simp [intOf]; omega
    · obtain rfl : k = es.length := by omega
      rw [List.take_length] at *
      go_wp2
      go_ret
      exact ⟨rfl, HW.out⟩
/-- the power may go -/
theorem refBurns_only (h : RefAt w B q v es cap fuse lost) (hl : lost = false) (h0 : -1 ≤ fuse) (h1 : fuse ≤ 9223372036854775807) :
    Calls Try.prog 31 #[.pointer (some ⟨q, 0, none⟩)] w fun e w' => e = .returned (.bool (decide (fuse = 0))) ∧ RefAt w' B q v es cap (if 0 < fuse then fuse - 1 else fuse) (decide (fuse = 0)) ∧ TBut B q w w' ∧ Only q w w' := by
  have c2 := h.c2
  have c3 := h.c3
  have f0 := h.cells.frozen 2
  have f1 := h.cells.frozen 3
  subst hl
  have H := Lib.hid h
  have fin : ∀ (fu : Int) (l : Bool) (w' : World), Blk w' q 32 (refCells cap v fu l) → TBut B q w w' → w'.heap.size = w.heap.size → (∀ i, i ≠ q → w'.heap[i]? = w.heap[i]?) → RefAt w' B q v es cap fu l ∧ TBut B q w w' ∧ Only q w w' := fun fu l w' hc hb _ hk =>
    ⟨H.out.turn hb hc (H.out.row.keep fun g hg => hk g fun e => by
      obtain ⟨cur, p, hc', _⟩ := H.out.row.pure g hg
      have hq := H.out.cells
      subst e
      unfold Blk at hq
      rw [hq] at hc'
      injection hc' with hc'
      injection hc' with _ hc'
      exact absurd hc' (by decide)) H.out.up (fun x hx => .inl ⟨x, hx, rfl⟩), hb, fun i _ hi => hk i hi⟩
  have FIN := Lib.hid fin
  clear fin h
  by_cases hz : fuse = 0
  · subst hz
    go_enter Try.func31, Try.ntmps31
    go_wp2
    go_ret
    exact ⟨rfl, FIN.out _ _ _ (H.out.cells.set_ 3 (.bool true)) ((TBut.refl B q w).set_ 3 (.bool true)) (by simp [World.setCell]) (fun i hi => Below.heap_setCell _ _ _ _ hi)⟩
  · have z1 : (fuse == 0) = false := by simp [hz]
    have z2 : (decide (fuse = 0)) = false := by simp [hz]
    rw [z2]
    by_cases hp : 0 < fuse
    · rw [if_pos hp]
      go_enter Try.func31, Try.ntmps31
      go_wp2
      go_ret
      exact ⟨rfl, FIN.out _ _ _ (H.out.cells.set_ 2 (.int .i64 (fuse - 1))) ((TBut.refl B q w).set_ 2 (.int .i64 (fuse - 1))) (by simp [World.setCell]) (fun i hi => Below.heap_setCell _ _ _ _ hi)⟩
    · rw [if_neg hp]
      have hp' : decide (0 < fuse) = false := by simp; omega
      go_enter Try.func31, Try.ntmps31
      go_wp2
      go_ret
      exact ⟨rfl, H.out, TBut.refl _ _ _, fun _ _ _ => rfl⟩
theorem refBurns_at (h : RefAt w B q v es cap fuse lost) (hl : lost = false) (h0 : -1 ≤ fuse) (h1 : fuse ≤ 9223372036854775807) :
    Calls Try.prog 31 #[.pointer (some ⟨q, 0, none⟩)] w fun e w' => e = .returned (.bool (decide (fuse = 0))) ∧ RefAt w' B q v es cap (if 0 < fuse then fuse - 1 else fuse) (decide (fuse = 0)) ∧ TBut B q w w' :=
  (refBurns_only h hl h0 h1).mono fun _ _ ⟨a, b, c, _⟩ => ⟨a, b, c⟩
end
end Go.Proofs.Ytplbclbeccoegaa
