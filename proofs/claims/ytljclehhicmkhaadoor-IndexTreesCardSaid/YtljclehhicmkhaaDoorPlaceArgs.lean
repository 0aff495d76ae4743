/-
  Arguments that are places, opened; all arguments stay behind a call that writes below nothing.
-/
import Derived.Test.YtljclehhicmkhaaDoorTreesLaw
import Derived.Deep.Slices
import Derived.Deep.Fields
import Derived.ChangeSame
import Derived.ChangeSlices
import Derived.Carry
import Derived.SizedLaws
namespace Go.Proofs.YtljclehhicmkhaaDoor
open Go.ChangeShapes Go.WideShapes Go.Deep Go.RowKit
section
variable {H : Type} {enc : TypeId × Value → H} {P : Program} {W W' : World}
theorem trodAll_stays (hl : laidOutB P = true) {sp : Nat → Bool} : ∀ {ts : List TypeId} {vs : List Value} {ds : List (DataW H)} {ps : List MemPlace}, (ts.all fun t => P.readableRec t && decide (t < P.types.size)) = true →
    DataW.TrodAll enc P W 0 (fun _ => true) true ts vs ds ps → (∀ x ∈ ps, W.sameAt W' x) → (∀ x ∈ ps, sp x.block = true) → DataW.TrodAll enc P W' 0 sp true ts vs ds ps
  | [], [], [], _, _, h, _, _ => h
  | _ :: _, _ :: _, _ :: _, _, ha, ⟨p, q, h1, h2, e⟩, hsame, hs => by
    rw [List.all_cons, Bool.and_eq_true, Bool.and_eq_true, decide_eq_true_eq] at ha
    subst e
    exact ⟨p, q, WideElems.Trod_stays hl ha.1.1 ha.1.2 h1 (fun x hx => hsame x (List.mem_append_left _ hx)) (fun x hx => hs x (List.mem_append_left _ hx)),
      trodAll_stays hl ha.2 h2 (fun x hx => hsame x (List.mem_append_right _ hx)) (fun x hx => hs x (List.mem_append_right _ hx)), rfl⟩
end
theorem cell_lt {w : World} {a : Addr} {v : Value} (h : w.cell? a = some v) : a.block < w.heap.size := by
  rcases Nat.lt_or_ge a.block w.heap.size with hlt | hge
  · exact hlt
  · unfold World.cell? at h
    simp [Array.getElem?_eq_none hge] at h
section
variable {H : Type} {enc : TypeId × Value → H} {P : Program} {w : World} {base : Nat} {spare : Nat → Bool} {held : Bool}
/-- two cells that read as a place's struct are a place -/
theorem place_of {t ti ts : TypeId} {fs : Array Field} {f0 f1 : Field} (ht : P.underlying t = some (.struct fs)) (hfs : fs = #[f0, f1]) (hone : oneCellFields P fs = true) (hC : P.cellsOf t = 2)
    (ht0 : f0.type = ti) (ht1 : f1.type = ts) (hi : P.underlying ti = some (.int .i64)) (hs : P.underlying ts = some .string)
    {l : List Value} {fuel : Nat} {dx : DataW H × List MemPlace} (hf : DataW.trod enc P w base spare held fuel t l = some dx) : ∃ x : PlaceM, l = pcell x ∧ x.2.size ≤ maxLen := by
  subst hfs
  obtain ⟨ys, n, _, hdx, hll, hyl, hat⟩ := DataW.trod_struct ht hf
  have hyl6 : ys.length = 2 := hyl
  rw [hC] at hll
  obtain ⟨c0, c1, rfl⟩ : ∃ c0 c1, l = [c0, c1] := by
    match l, hll with
    | [c0, c1], _ => exact ⟨c0, c1, rfl⟩
  obtain ⟨y0, y1, rfl⟩ : ∃ y0 y1, ys = [y0, y1] := by
    match ys, hyl6 with
    | [c0, c1], _ => exact ⟨c0, c1, rfl⟩
  have each : ∀ (j : Nat) (f : Field) (c : Value) (y : DataW H × List MemPlace), (#[f0, f1] : Array Field)[j]? = some f → [c0, c1][j]? = some c → [y0, y1][j]? = some y → DataW.trod enc P w base spare held n f.type [c] = some y := by
    intro j f c y hj hc hy
    obtain ⟨ho, hk⟩ := hone_of hone j f hj
    have h1 := hat j f hj
    rw [ho, hk] at h1
    have hjl : j < 2 := by
      have := (Array.getElem?_eq_some_iff.1 hj).1
      simpa using this
    have hd1 : (List.drop j [c0, c1]).take 1 = [c] := by
      have hjl' : j < [c0, c1].length := by simpa using hjl
      rw [List.drop_eq_getElem_cons hjl']
      rw [List.getElem?_eq_getElem hjl'] at hc
      injection hc with hc
      rw [hc]
      rfl
    rw [hd1] at h1
    exact h1.trans hy
  have g0 := each 0 f0 c0 y0 rfl rfl rfl
  have g1 := each 1 f1 c1 y1 rfl rfl rfl
  rw [ht0] at g0
  rw [ht1] at g1
  obtain ⟨z0, e0, _, _⟩ := DataW.trod_int hi g0
  obtain ⟨s1, e1, _, w1⟩ := DataW.trod_string hs g1
  simp only [List.cons.injEq, and_true] at e0 e1
  subst e0 e1
  exact ⟨(z0, s1), rfl, w1⟩
theorem open_places {r : Reach} {b0 : Nat} {t e ti ts : TypeId} {fs : Array Field} {f0 f1 : Field} (ht : P.underlying t = some (.slice e)) (he : P.underlying e = some (.struct fs)) (hfs : fs = #[f0, f1]) (hone : oneCellFields P fs = true) (hC : P.cellsOf e = 2)
    (ht0 : f0.type = ti) (ht1 : f1.type = ts) (hi : P.underlying ti = some (.int .i64)) (hs : P.underlying ts = some .string)
    {v : Value} {d : DataW H} {ps : List MemPlace} (hv : Value.okWide P w r b0 t v) (h : DataW.Trod enc P w base spare held t v d ps) :
    ∃ (A : Option Addr) (c : Nat) (l : List PlaceM), v = .slice A l.length c ∧ l.length ≤ c ∧ c ≤ maxLen ∧ Reads w w.heap.size 2 A l.length (pcells l) ∧ ∀ x ∈ l, x.2.size ≤ maxLen := by
  obtain ⟨A, len, cap, rfl⟩ := okWide_slice ht hv
  obtain ⟨fuel, hf⟩ := h
  rcases open_slice ht hf with ⟨hcs, _⟩ | ⟨a, len', cap', m, n0, D, Pl, hcs, _, hl, hm, hmm, hdx, hx⟩
  · simp [Value.cells] at hcs
    obtain ⟨rfl, rfl, rfl⟩ := hcs
    exact ⟨none, 0, [], rfl, Nat.le_refl _, Nat.zero_le _, ⟨rfl, fun hn => absurd hn (by simp)⟩, fun x hx => (by cases hx)⟩
  · simp [Value.cells] at hcs
    obtain ⟨rfl, rfl, rfl⟩ := hcs
    have hml : len ≤ m := by rw [hmm]; split <;> omega
    rw [hC] at hx
    have hall : ∀ n, n ≤ len → ∃ l : List PlaceM, l.length = n ∧ (∀ x ∈ l, x.2.size ≤ maxLen) ∧ ∀ i x, l[i]? = some x → ∀ j u, (pcell x)[j]? = some u → w.cell? (a.add (i * 2 + j)) = some u := by
      intro n
      induction n with
      | zero => intro _; exact ⟨[], rfl, by simp, by simp⟩
      | succ n ih =>
        intro hnl
        obtain ⟨l, hl1, hl2, hl3⟩ := ih (by omega)
        obtain ⟨cs', hcc, htr⟩ := hx n (by omega)
        obtain ⟨x, hxc, hok⟩ := place_of he hfs hone hC ht0 ht1 hi hs htr
        obtain ⟨_, _, hat⟩ := World.cells?_some hcc
        refine ⟨l ++ [x], by simp [hl1], ?_, ?_⟩
        · intro y hy
          rcases List.mem_append.1 hy with h | h
          · exact hl2 y h
          · simp at h
            subst h
            exact hok
        · intro i y hi' j u hj
          rcases Nat.lt_or_ge i l.length with h | h
          · rw [List.getElem?_append_left h] at hi'; exact hl3 i y hi' j u hj
          · rw [List.getElem?_append_right h] at hi'
            have h0 : i - l.length = 0 := by
              rcases Nat.eq_zero_or_pos (i - l.length) with h' | h'
              · exact h'
              · rw [List.getElem?_eq_none (by simp; omega)] at hi'; cases hi'
            rw [h0] at hi'
            simp at hi'
            subst hi'
            obtain rfl : i = n := by omega
            have hj2 : j < 2 := by
              rcases Nat.lt_or_ge j 2 with h' | h'
              · exact h'
              · rw [List.getElem?_eq_none (by show 2 ≤ j; omega)] at hj; cases hj
            rw [← hxc] at hj
            have := hat j hj2
            rw [hj, Go.Deep.add_add] at this
            exact this
    obtain ⟨l, rfl, hb, hc⟩ := hall len (Nat.le_refl _)
    refine ⟨some a, cap, l, rfl, hl, hm, ⟨pcells_length l, fun hn => ⟨a, rfl, ?_, ?_⟩⟩, hb⟩
    · have := hc 0 (l[0]'hn) (List.getElem?_eq_getElem hn) 0 _ rfl
      have := cell_lt this
      rwa [block_of_add] at this
    · intro j u hj
      have hjl : j < (pcells l).length := by
        rcases Nat.lt_or_ge j (pcells l).length with h | h
        · exact h
        · rw [List.getElem?_eq_none h] at hj; cases hj
      rw [pcells_length] at hjl
      have hq : j / 2 < l.length := by omega
      have he2 : j / 2 * 2 + j % 2 = j := by omega
      have hp := pcells_at l (j / 2) (l[j / 2]'hq) (List.getElem?_eq_getElem hq) (j % 2) (by omega)
      rw [he2, hj] at hp
      have := hc (j / 2) _ (List.getElem?_eq_getElem hq) (j % 2) u hp.symm
      rw [he2] at this
      exact this
end
end Go.Proofs.YtljclehhicmkhaaDoor
