/-
  Arguments that are rows of spans or of numbers, opened; all arguments stay behind a call that writes below nothing.
-/
import Derived.Test.YtfnckkmnncdelaaDoorReads
import Derived.Test.YtfnckkmnncdelaaDoorSeqLaw2
import Derived.Deep.Slices
import Derived.Deep.Fields
import Derived.ChangeSame
import Derived.ChangeSlices
import Derived.Carry
namespace Go.Proofs.YtfnckkmnncdelaaDoor
open Go.ChangeShapes Go.WideShapes Go.Deep Go.RowKit
section
variable {H : Type} {enc : TypeId × Value → H} {P : Program} {W W' : World}
theorem trodAll_stays (hl : laidOutB P = true) {sp : Nat → Bool} : ∀ {ts : List TypeId} {vs : List Value} {ds : List (DataW H)} {ps : List MemPlace}, (ts.all fun t => P.readableRec t && decide (t < P.types.size)) = true →
    DataW.TrodAll enc P W 0 (fun _ => true) true ts vs ds ps → (∀ x ∈ ps, W.sameAt W' x) → (∀ x ∈ ps, sp x.block = true) → DataW.TrodAll enc P W' 0 sp true ts vs ds ps
  | [], [], [], _, _, h, _, _ => h
  | _ :: _, _ :: _, _ :: _, _, ha, ⟨p, q, h1, h2, e⟩, hsame, hs => by
    rw [List.all_cons, Bool.and_eq_true, Bool.and_eq_true, decide_eq_true_eq] at ha
    subst e
    exact ⟨p, q, WideElems.Trod_stays hl ha.1.1 ha.1.2 h1 (fun x hx => hsame x (List.mem_append_left _ hx)) (fun x hx => hs x (List.mem_append_left _ hx)),
      trodAll_stays hl ha.2 h2 (fun x hx => hsame x (List.mem_append_right _ hx)) (fun x hx => hs x (List.mem_append_right _ hx)), rfl⟩
variable {w : World} {base : Nat} {spare : Nat → Bool} {held : Bool}
theorem slice_fields {t e : TypeId} {fs : Array Field} {fuel : Nat} {cs : List Value} {x : DataW H × List MemPlace} (ht : P.underlying t = some (.slice e)) (he : P.underlying e = some (.struct fs))
    (hone : oneCellFields P fs = true) (hC : P.cellsOf e = fs.size) (h : DataW.trod enc P w base spare held fuel t cs = some x) :
    cs = [.slice none 0 0] ∨
    ∃ (a : Addr) (len cap m : Nat), cs = [.slice (some a) len cap] ∧ len ≤ cap ∧ cap ≤ maxLen ∧ len ≤ m ∧
      ∀ i, i < m → ∀ (j : Nat) (f : Field), fs[j]? = some f → ∃ (n : Nat) (v : Value) (y : DataW H × List MemPlace), w.cell? (a.add (i * fs.size + j)) = some v ∧ DataW.trod enc P w base spare held n f.type [v] = some y := by
  rcases open_slice ht h with h0 | ⟨a, len, cap, m, n, D, Pl, hcs, hb, hl, hm, hmm, hx, hi⟩
  · exact .inl h0.1
  · refine .inr ⟨a, len, cap, m, hcs, hl, hm, by rw [hmm]; split <;> omega, fun i him j f hj => ?_⟩
    obtain ⟨cs', hc, ht'⟩ := hi i him
    rw [hC] at hc
    obtain ⟨ys, n', hn', hy, hlen, hyl, hf⟩ := DataW.trod_struct he ht'
    obtain ⟨_, hcl, hat⟩ := World.cells?_some hc
    obtain ⟨ho, hk⟩ := hone_of hone j f hj
    have hjl : j < fs.size := (Array.getElem?_eq_some_iff.1 hj).1
    have hcell := hat j hjl
    have hv : cs'[j]? = some (cs'[j]'(by omega)) := List.getElem?_eq_getElem (by omega)
    have h1 := hf j f hj
    rw [ho, hk] at h1
    have hone' : (cs'.drop j).take 1 = [cs'[j]'(by omega)] := by
      rw [List.drop_eq_getElem_cons (by omega)]
      rfl
    rw [hone'] at h1
    have hys : ys[j]? = some (ys[j]'(by omega)) := List.getElem?_eq_getElem (by omega)
    refine ⟨_, _, _, ?_, h1.trans hys⟩
    rw [← Go.Deep.add_add, hcell, hv]
end
theorem cell_lt {w : World} {a : Addr} {v : Value} (h : w.cell? a = some v) : a.block < w.heap.size := by
  rcases Nat.lt_or_ge a.block w.heap.size with hlt | hge
  · exact hlt
  · unfold World.cell? at h
    simp [Array.getElem?_eq_none hge] at h
theorem u32_of_wf {n : Int} (h : (Lit.int .u32 n).wf = true) : 0 ≤ n ∧ n ≤ 4294967295 := by
  simp only [Lit.wf, Bool.and_eq_true, decide_eq_true_eq] at h
  exact h
theorem open_spans {H : Type} {enc : TypeId × Value → H} {P : Program} {w : World} {base : Nat} {spare : Nat → Bool} {held : Bool} {r : Reach} {b0 : Nat} {t e u : TypeId} {v : Value} {d : DataW H} {ps : List MemPlace} {f0 f1 : Field} (ht : P.underlying t = some (.slice e)) (he : P.underlying e = some (.struct #[f0, f1]))
    (hone : oneCellFields P #[f0, f1] = true) (hC : P.cellsOf e = 2) (h0 : f0.type = u) (h1 : f1.type = u) (hu : P.underlying u = some (.int .u32)) (hv : Value.okWide P w r b0 t v) (h : DataW.Trod enc P w base spare held t v d ps) :
    ∃ (A : Option Addr) (c : Nat) (l : List (Nat × Nat)), v = .slice A l.length c ∧ Reads w w.heap.size 2 A l.length (spanCells l) ∧ (∀ x ∈ l, x.1 ≤ 4294967295 ∧ x.2 ≤ 4294967295) ∧ l.length ≤ maxLen := by
  obtain ⟨A, len, cap, rfl⟩ := okWide_slice ht hv
  obtain ⟨fuel, hf⟩ := h
  rcases slice_fields ht he hone hC hf with hcs | ⟨a, len', cap', m, hcs, hl, hm, hmm, hx⟩
  · simp [Value.cells] at hcs
    obtain ⟨rfl, rfl, rfl⟩ := hcs
    exact ⟨none, 0, [], rfl, ⟨rfl, fun hn => absurd hn (by simp)⟩, by simp, by simp⟩
  · simp [Value.cells] at hcs
    obtain ⟨rfl, rfl, rfl⟩ := hcs
    have hall : ∀ n, n ≤ len → ∃ l : List (Nat × Nat), l.length = n ∧ (∀ x ∈ l, x.1 ≤ 4294967295 ∧ x.2 ≤ 4294967295) ∧ ∀ i x, l[i]? = some x → w.cell? (a.add (i * 2)) = some (.int .u32 (x.1 : Nat)) ∧ w.cell? (a.add (i * 2 + 1)) = some (.int .u32 (x.2 : Nat)) := by
      intro n
      induction n with
      | zero => intro _; exact ⟨[], rfl, by simp, by simp⟩
      | succ n ih =>
        intro hn
        obtain ⟨l, hl1, hl2, hl3⟩ := ih (by omega)
        obtain ⟨n0, v0, y0, c0, t0⟩ := hx n (by omega) 0 f0 rfl
        obtain ⟨n1, v1, y1, c1, t1⟩ := hx n (by omega) 1 f1 rfl
        rw [h0] at t0
        rw [h1] at t1
        obtain ⟨z0, e0, _, w0⟩ := DataW.trod_int hu t0
        obtain ⟨z1, e1, _, w1⟩ := DataW.trod_int hu t1
        simp only [List.cons.injEq, and_true] at e0 e1
        subst e0 e1
        have b0 := u32_of_wf w0
        have b1 := u32_of_wf w1
        refine ⟨l ++ [(z0.toNat, z1.toNat)], by simp [hl1], ?_, ?_⟩
        · intro x hx'
          rcases List.mem_append.1 hx' with h | h
          · exact hl2 x h
          · simp at h; subst h; simp; omega
        · intro i x hi
          rcases Nat.lt_or_ge i l.length with h | h
          · rw [List.getElem?_append_left h] at hi; exact hl3 i x hi
          · rw [List.getElem?_append_right h] at hi
            have : i - l.length = 0 := by
              rcases Nat.eq_zero_or_pos (i - l.length) with h' | h'
              · exact h'
              · rw [List.getElem?_eq_none (by simp; omega)] at hi; cases hi
            rw [this] at hi
            simp at hi
            subst hi
            obtain rfl : i = n := by omega
            simp only [Int.toNat_of_nonneg b0.1, Int.toNat_of_nonneg b1.1]
            exact ⟨c0, c1⟩
    obtain ⟨l, rfl, hb, hc⟩ := hall len (Nat.le_refl _)
    refine ⟨some a, cap, l, rfl, ⟨spanCells_length l, fun hn => ⟨a, rfl, ?_, ?_⟩⟩, hb, by omega⟩
    · have := (hc 0 (l[0]'hn) (List.getElem?_eq_getElem hn)).1
      have := cell_lt this
      rwa [block_of_add] at this
    · intro j u hj
      have hjl : j < (spanCells l).length := by
        rcases Nat.lt_or_ge j (spanCells l).length with h | h
        · exact h
        · rw [List.getElem?_eq_none h] at hj; cases hj
      rw [spanCells_length] at hjl
      have hq : l[j / 2]? = some (l[j / 2]'(by omega)) := List.getElem?_eq_getElem (by omega)
      obtain ⟨s0, s1⟩ := spanCells_at l _ _ hq
      obtain ⟨c0, c1⟩ := hc _ _ hq
      rcases Nat.mod_two_eq_zero_or_one j with h | h
      · have e : j = j / 2 * 2 := by omega
        have hj' : (spanCells l)[j / 2 * 2]? = some u := by rw [← e]; exact hj
        rw [s0] at hj'; cases hj'; exact (congrArg (fun q => w.cell? (a.add q)) e).trans c0
      · have e : j = j / 2 * 2 + 1 := by omega
        have hj' : (spanCells l)[j / 2 * 2 + 1]? = some u := by rw [← e]; exact hj
        rw [s1] at hj'; cases hj'; exact (congrArg (fun q => w.cell? (a.add q)) e).trans c1
theorem open_nums {H : Type} {enc : TypeId × Value → H} {P : Program} {w : World} {base : Nat} {spare : Nat → Bool} {held : Bool} {r : Reach} {b0 : Nat} {t e : TypeId} {v : Value} {d : DataW H} {ps : List MemPlace} (ht : P.underlying t = some (.slice e)) (he : P.underlying e = some (.int .u32)) (hc : P.cellsOf e = 1)
    (hv : Value.okWide P w r b0 t v) (h : DataW.Trod enc P w base spare held t v d ps) :
    ∃ (A : Option Addr) (c : Nat) (l : List Nat), v = .slice A l.length c ∧ Reads w w.heap.size 1 A l.length (l.map fun (n : Nat) => Value.int .u32 (n : Int)) ∧ (∀ x ∈ l, x ≤ 4294967295) ∧ l.length ≤ maxLen := by
  obtain ⟨A, len, cap, rfl⟩ := okWide_slice ht hv
  obtain ⟨fuel, hf⟩ := h
  rcases open_ints ht he hc hf with ⟨hcs, _⟩ | ⟨a, len', cap', zs, hcs, _, hl, hm, hz, _, hcell, hwf⟩
  · simp [Value.cells] at hcs
    obtain ⟨rfl, rfl, rfl⟩ := hcs
    exact ⟨none, 0, [], rfl, ⟨rfl, fun hn => absurd hn (by simp)⟩, by simp, by simp⟩
  · simp [Value.cells] at hcs
    obtain ⟨rfl, rfl, rfl⟩ := hcs
    have hlen : len ≤ zs.length := by rw [hz]; split <;> omega
    have hll : ((zs.take len).map Int.toNat).length = len := by simp; omega
    refine ⟨some a, cap, (zs.take len).map Int.toNat, by rw [hll], ⟨by simp, fun hn => ⟨a, rfl, ?_, ?_⟩⟩, ?_, by rw [hll]; omega⟩
    · rw [hll] at hn
      have := cell_lt (hcell 0 (by omega))
      rwa [block_of_add] at this
    · intro j u hj
      rw [List.getElem?_map, List.getElem?_map] at hj
      rcases Nat.lt_or_ge j len with h | h
      · have hq : (zs.take len)[j]? = some (zs[j]'(by omega)) := by rw [List.getElem?_take, if_pos h, List.getElem?_eq_getElem (by omega)]
        rw [hq] at hj
        simp only [Option.map_some, Option.some.injEq] at hj
        subst hj
        have hb := u32_of_wf (hwf _ (List.getElem_mem (l := zs) (n := j) (by omega)))
        rw [Int.toNat_of_nonneg hb.1, hcell j (by omega), List.getD_eq_getElem?_getD, List.getElem?_eq_getElem (by omega)]
        rfl
      · rw [List.getElem?_eq_none (by simp; omega)] at hj; cases hj
    · intro x hx
      simp only [List.mem_map] at hx
      obtain ⟨z, hz', rfl⟩ := hx
      have := u32_of_wf (hwf z (List.mem_of_mem_take hz'))
      omega
end Go.Proofs.YtfnckkmnncdelaaDoor
