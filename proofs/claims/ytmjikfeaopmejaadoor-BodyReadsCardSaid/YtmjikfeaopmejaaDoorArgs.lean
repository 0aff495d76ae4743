/-
  Arguments, opened by their types: numbers, texts, structs of one-cell fields, slices of what reads.
-/
import Derived.Test.YtmjikfeaopmejaaDoorReads
import Derived.Deep.Slices
import Derived.Deep.Fields
import Derived.ChangeSame
import Derived.ChangeSlices
import Derived.Carry
import Derived.SizedLaws
import Derived.Lib.SmallJoins
namespace Go.Proofs.YtmjikfeaopmejaaDoor
open Go.ChangeShapes Go.WideShapes Go.Deep Go.RowKit
theorem cell_lt' {w : World} {a : Addr} {v : Value} (h : w.cell? a = some v) : a.block < w.heap.size := by
  rcases Nat.lt_or_ge a.block w.heap.size with hlt | hge
  · exact hlt
  · unfold World.cell? at h
    simp [Array.getElem?_eq_none hge] at h
/-- cells that read at a type -/
def Fits {H : Type} (enc : TypeId × Value → H) (P : Program) (w : World) (t : TypeId) (cs : List Value) : Prop := ∃ base spare held fuel x, DataW.trod enc P w base spare held fuel t cs = some x
section
variable {H : Type} {enc : TypeId × Value → H} {P : Program} {w : World} {t e : TypeId} {cs : List Value}
theorem fits_int {k : IntKind} (h : Fits enc P w t cs) (ht : P.underlying t = some (.int k)) : ∃ n, cs = [.int k n] ∧ (Lit.int k n).wf = true := by
  obtain ⟨_, _, _, _, _, h⟩ := h
  obtain ⟨n, e, _, hw⟩ := DataW.trod_int ht h
  exact ⟨n, e, hw⟩
theorem fits_string (h : Fits enc P w t cs) (ht : P.underlying t = some .string) : ∃ s : ByteArray, cs = [.string s] ∧ s.size ≤ maxLen := by
  obtain ⟨_, _, _, _, _, h⟩ := h
  obtain ⟨s, e, _, hw⟩ := DataW.trod_string ht h
  exact ⟨s, e, hw⟩
theorem fits_bool (h : Fits enc P w t cs) (ht : P.underlying t = some .bool) : ∃ b, cs = [.bool b] := by
  obtain ⟨_, _, _, _, _, h⟩ := h
  obtain ⟨s, e, _⟩ := DataW.trod_bool ht h
  exact ⟨s, e⟩
theorem fits_fields {fs : Array Field} (h : Fits enc P w t cs) (ht : P.underlying t = some (.struct fs)) (hone : oneCellFields P fs = true) (hC : P.cellsOf t = fs.size) : cs.length = fs.size ∧ ∀ (j : Nat) (f : Field) (c : Value), fs[j]? = some f → cs[j]? = some c → Fits enc P w f.type [c] := by
  obtain ⟨base, spare, held, fuel, x, h⟩ := h
  obtain ⟨ys, n, _, _, hl, hyl, hat⟩ := DataW.trod_struct ht h
  refine ⟨by rw [hl, hC], fun j f c hf hc => ?_⟩
  obtain ⟨ho, hk⟩ := hone_of hone j f hf
  have h1 := hat j f hf
  have hj := (Array.getElem?_eq_some_iff.1 hf).1
  rw [ho, hk] at h1
  have hd1 : (List.drop j cs).take 1 = [c] := by
    have hjl := (List.getElem?_eq_some_iff.1 hc).1
    rw [List.drop_eq_getElem_cons hjl, (List.getElem?_eq_some_iff.1 hc).2]
    rfl
  rw [hd1, List.getElem?_eq_getElem (by omega)] at h1
  exact ⟨base, spare, held, n, _, h1⟩
theorem rows_at (k : Nat) : ∀ (L : List (List Value)) (i j : Nat) (x : List Value), (∀ x ∈ L, x.length = k) → L[i]? = some x → j < k → L.flatten[i * k + j]? = x[j]?
  | y :: r, 0, j, x, hL, h, hj => by
    have e : y = x := by simpa using h
    subst e
    have := hL y List.mem_cons_self
    rw [List.flatten_cons, Nat.zero_mul, Nat.zero_add, List.getElem?_append_left (by omega)]
  | y :: r, i + 1, j, x, hL, h, hj => by
    have ih := rows_at k r i j x (fun z hz => hL z (List.mem_cons_of_mem _ hz)) (by simpa using h) hj
    have := hL y List.mem_cons_self
    have hm : k ≤ (i + 1) * k + j := by rw [Nat.succ_mul]; omega
    rw [List.flatten_cons, List.getElem?_append_right (by omega)]
    have e : (i + 1) * k + j - y.length = i * k + j := by rw [Nat.succ_mul]; omega
    rw [e]; exact ih
theorem rows_len (k : Nat) : ∀ (L : List (List Value)), (∀ x ∈ L, x.length = k) → L.flatten.length = L.length * k
  | [], _ => by simp
  | y :: r, h => by
    have := rows_len k r fun z hz => h z (List.mem_cons_of_mem _ hz)
    rw [List.flatten_cons, List.length_append, this, h y List.mem_cons_self, List.length_cons, Nat.succ_mul]; omega
theorem fits_slice (h : Fits enc P w t cs) (ht : P.underlying t = some (.slice e)) (hk : 0 < P.cellsOf e) :
    ∃ (A : Option Addr) (n c : Nat) (L : List (List Value)), cs = [.slice A n c] ∧ n ≤ c ∧ c ≤ maxLen ∧ L.length = n ∧ (∀ x ∈ L, x.length = P.cellsOf e ∧ Fits enc P w e x) ∧ Reads w w.heap.size (P.cellsOf e) A n L.flatten := by
  obtain ⟨base, spare, held, fuel, x, hf⟩ := h
  rcases open_slice ht hf with ⟨hcs, _⟩ | ⟨a, len, cap, m, n0, D, Pl, hcs, _, hl, hm, hmm, hdx, hx⟩
  · exact ⟨none, 0, 0, [], hcs, Nat.le_refl _, Nat.zero_le _, rfl, fun x hx => (by cases hx), by simp, fun hn => absurd hn (by simp)⟩
  · have hml : len ≤ m := by rw [hmm]; split <;> omega
    have hall : ∀ n, n ≤ len → ∃ L : List (List Value), L.length = n ∧ (∀ x ∈ L, x.length = P.cellsOf e ∧ Fits enc P w e x) ∧ ∀ i x, L[i]? = some x → ∀ j u, x[j]? = some u → w.cell? (a.add (i * P.cellsOf e + j)) = some u := by
      intro n
      induction n with
      | zero => intro _; exact ⟨[], rfl, by simp, by simp⟩
      | succ n ih =>
        intro hnl
        obtain ⟨L, hl1, hl2, hl3⟩ := ih (by omega)
        obtain ⟨cs', hcc, htr⟩ := hx n (by omega)
        obtain ⟨_, hlen, hat⟩ := World.cells?_some hcc
        refine ⟨L ++ [cs'], by simp [hl1], ?_, ?_⟩
        · intro y hy
          rcases List.mem_append.1 hy with h | h
          · exact hl2 y h
          · rw [List.mem_singleton] at h
            subst h
            exact ⟨hlen, base, spare, held, n0, _, htr⟩
        · intro i y hi' j u hj
          rcases Nat.lt_or_ge i L.length with h | h
          · rw [List.getElem?_append_left h] at hi'; exact hl3 i y hi' j u hj
          · rw [List.getElem?_append_right h] at hi'
            have h0 : i - L.length = 0 := by
              rcases Nat.eq_zero_or_pos (i - L.length) with h' | h'
              · exact h'
              · rw [List.getElem?_eq_none (by simp; omega)] at hi'; cases hi'
            rw [h0] at hi'
            have hy : cs' = y := by simpa using hi'
            subst hy
            obtain rfl : i = n := by omega
            have hj2 : j < P.cellsOf e := by
              have := (List.getElem?_eq_some_iff.1 hj).1
              omega
            have := hat j hj2
            rw [hj, Go.Deep.add_add] at this
            exact this
    obtain ⟨L, hL1, hL2, hL3⟩ := hall len (Nat.le_refl _)
    refine ⟨some a, len, cap, L, hcs, hl, hm, hL1, hL2, ?_, fun hn => ⟨a, rfl, ?_, ?_⟩⟩
    · rw [rows_len _ L fun x hx => (hL2 x hx).1, hL1]
    · obtain ⟨x, hx0⟩ : ∃ x, L[0]? = some x := ⟨_, List.getElem?_eq_getElem (by omega)⟩
      have hxl := (hL2 x (List.mem_of_getElem? hx0)).1
      obtain ⟨u, hu⟩ : ∃ u, x[0]? = some u := ⟨_, List.getElem?_eq_getElem (by omega)⟩
      have := cell_lt' (hL3 0 x hx0 0 u hu)
      rwa [block_of_add] at this
    · intro j u hj
      have hjl := (List.getElem?_eq_some_iff.1 hj).1
      rw [rows_len _ L fun x hx => (hL2 x hx).1] at hjl
      have hq : j / P.cellsOf e < L.length := Nat.div_lt_of_lt_mul (by rw [Nat.mul_comm]; exact hjl)
      have he2 : j / P.cellsOf e * P.cellsOf e + j % P.cellsOf e = j := by rw [Nat.mul_comm]; exact Nat.div_add_mod j _
      have hp := rows_at (P.cellsOf e) L (j / P.cellsOf e) (j % P.cellsOf e) _ (fun x hx => (hL2 x hx).1) (List.getElem?_eq_getElem hq) (Nat.mod_lt _ hk)
      rw [he2, hj] at hp
      have := hL3 _ _ (List.getElem?_eq_getElem hq) _ u hp.symm
      rw [he2] at this
      exact this
theorem fits_top {base0 : Nat} {spare : Nat → Bool} {held : Bool} {v : Value} {d : DataW H} {ps : List MemPlace} (h : DataW.Trod enc P w base0 spare held t v d ps) : Fits enc P w t v.cells.toList := by
  obtain ⟨fuel, hf⟩ := h
  exact ⟨_, _, _, fuel, _, hf⟩
theorem fits_struct {base0 : Nat} {spare : Nat → Bool} {held : Bool} {r : Reach} {b0 : Nat} {fs : Array Field} {v : Value} {d : DataW H} {ps : List MemPlace} (hv : Value.okWide P w r b0 t v) (ht : P.underlying t = some (.struct fs)) (h : DataW.Trod enc P w base0 spare held t v d ps) : ∃ cs : Array Value, v = .agg cs ∧ Fits enc P w t cs.toList := by
  obtain ⟨cs, rfl, _⟩ := okWide_struct ht hv
  exact ⟨cs, rfl, fits_top h⟩
theorem fits_plain {base0 : Nat} {spare : Nat → Bool} {held : Bool} {v : Value} {d : DataW H} {ps : List MemPlace} (h : DataW.Trod enc P w base0 spare held t v d ps) (hc : v.cells = #[v]) : Fits enc P w t [v] := by
  have := fits_top h
  rwa [hc] at this
theorem choose_list {M : Type} {f : M → List Value} {Q : M → Prop} : ∀ {L : List (List Value)}, (∀ x ∈ L, ∃ m, x = f m ∧ Q m) → ∃ l : List M, L = l.map f ∧ ∀ m ∈ l, Q m
  | [], _ => ⟨[], rfl, by simp⟩
  | x :: r, h => by
    obtain ⟨m, rfl, hm⟩ := h x List.mem_cons_self
    obtain ⟨l, rfl, hl⟩ := choose_list (L := r) fun y hy => h y (List.mem_cons_of_mem _ hy)
    exact ⟨m :: l, rfl, fun y hy => by
      rcases List.mem_cons.1 hy with e | e
      · subst e; exact hm
      · exact hl y e⟩
/-- all arguments stay behind a call that writes below nothing -/
theorem args_stay (hl : laidOutB P = true) {W W' : World} {sp : Nat → Bool} : ∀ {ts : List TypeId} {vs : List Value} {ds : List (DataW H)} {ps : List MemPlace}, (ts.all fun t => P.readableRec t && decide (t < P.types.size)) = true →
    DataW.TrodAll enc P W 0 (fun _ => true) true ts vs ds ps → (∀ x ∈ ps, W.sameAt W' x) → (∀ x ∈ ps, sp x.block = true) → DataW.TrodAll enc P W' 0 sp true ts vs ds ps
  | [], [], [], _, _, h, _, _ => h
  | _ :: _, _ :: _, _ :: _, _, ha, ⟨p, q, h1, h2, e⟩, hsame, hs => by
    rw [List.all_cons, Bool.and_eq_true, Bool.and_eq_true, decide_eq_true_eq] at ha
    subst e
    exact ⟨p, q, WideElems.Trod_stays hl ha.1.1 ha.1.2 h1 (fun x hx => hsame x (List.mem_append_left _ hx)) (fun x hx => hs x (List.mem_append_left _ hx)),
      args_stay hl ha.2 h2 (fun x hx => hsame x (List.mem_append_right _ hx)) (fun x hx => hs x (List.mem_append_right _ hx)), rfl⟩
end
end Go.Proofs.YtmjikfeaopmejaaDoor
