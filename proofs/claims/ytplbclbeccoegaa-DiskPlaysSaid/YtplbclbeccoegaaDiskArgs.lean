/-
  Arguments that are disk acts, opened; all arguments stay behind a call that writes below nothing.
-/
import Derived.Test.YtplbclbeccoegaaDiskRestart
import Derived.Deep.Slices
import Derived.Deep.Fields
import Derived.ChangeSame
import Derived.ChangeSlices
import Derived.Carry
import Derived.SizedLaws
namespace Go.Proofs.Ytplbclbeccoegaa
open Go.ChangeShapes Go.WideShapes Go.Deep Go.RowKit
section
variable {H : Type} {enc : TypeId × Value → H} {P : Program} {W W' : World}
theorem trodAll_stays (hl : laidOutB P = true) {sp : Nat → Bool} : ∀ {ts : List TypeId} {vs : List Value} {ds : List (DataW H)} {ps : List MemPlace}, (ts.all fun t => P.readableRec t && decide (t < P.types.size)) = true →
    DataW.TrodAll enc P W 0 (fun _ => true) true ts vs ds ps → (∀ x ∈ ps, W.sameAt W' x) → (∀ x ∈ ps, sp x.block = true) → DataW.TrodAll enc P W' 0 sp true ts vs ds ps
  | [], [], [], _, _, h, _, _ => h
  | _ :: _, _ :: _, _ :: _, _, ha, ⟨p, q, h1, h2, e⟩, hsame, hs => by
    rw [List.all_cons, Bool.and_eq_true, Bool.and_eq_true, decide_eq_true_eq] at ha
    subst e
    exact ⟨p, q, WideElems.Trod_stays hl ha.1.1 ha.1.2 h1 (fun x hx => hsame x (List.mem_append_left _ hx)) (fun x hx => hs x (List.mem_append_left _ hx)),
      trodAll_stays hl ha.2 h2 (fun x hx => hsame x (List.mem_append_right _ hx)) (fun x hx => hs x (List.mem_append_right _ hx)), rfl⟩
variable {w : World} {base : Nat} {spare : Nat → Bool} {held : Bool}
theorem slice_fields {t e : TypeId} {fs : Array Field} {fuel : Nat} {cs : List Value} {x : DataW H × List MemPlace} (ht : P.underlying t = some (.slice e)) (he : P.underlying e = some (.struct fs))
    (hone : oneCellFields P fs = true) (hC : P.cellsOf e = fs.size) (h : DataW.trod enc P w base spare held fuel t cs = some x) :
    cs = [.slice none 0 0] ∨
    ∃ (a : Addr) (len cap m : Nat), cs = [.slice (some a) len cap] ∧ len ≤ cap ∧ cap ≤ maxLen ∧ len ≤ m ∧
      ∀ i, i < m → ∀ (j : Nat) (f : Field), fs[j]? = some f → ∃ (n : Nat) (v : Value) (y : DataW H × List MemPlace), w.cell? (a.add (i * fs.size + j)) = some v ∧ DataW.trod enc P w base spare held n f.type [v] = some y := by
  rcases open_slice ht h with h0 | ⟨a, len, cap, m, n, D, Pl, hcs, hb, hl, hm, hmm, hx, hi⟩
  · exact .inl h0.1
  · refine .inr ⟨a, len, cap, m, hcs, hl, hm, by rw [hmm]; split <;> omega, fun i him j f hj => ?_⟩
    obtain ⟨cs', hc, ht'⟩ := hi i him
    rw [hC] at hc
    obtain ⟨ys, n', hn', hy, hlen, hyl, hf⟩ := DataW.trod_struct he ht'
    obtain ⟨_, hcl, hat⟩ := World.cells?_some hc
    obtain ⟨ho, hk⟩ := hone_of hone j f hj
    have hjl : j < fs.size := (Array.getElem?_eq_some_iff.1 hj).1
    have hcell := hat j hjl
    have hv : cs'[j]? = some (cs'[j]'(by omega)) := List.getElem?_eq_getElem (by omega)
    have h1 := hf j f hj
    rw [ho, hk] at h1
    have hone' : (cs'.drop j).take 1 = [cs'[j]'(by omega)] := by
      rw [List.drop_eq_getElem_cons (by omega)]
      rfl
    rw [hone'] at h1
    have hys : ys[j]? = some (ys[j]'(by omega)) := List.getElem?_eq_getElem (by omega)
    refine ⟨_, _, _, ?_, h1.trans hys⟩
    rw [← Go.Deep.add_add, hcell, hv]
end
theorem cell_lt {w : World} {a : Addr} {v : Value} (h : w.cell? a = some v) : a.block < w.heap.size := by
  rcases Nat.lt_or_ge a.block w.heap.size with hlt | hge
  · exact hlt
  · unfold World.cell? at h
    simp [Array.getElem?_eq_none hge] at h
/-- an act, as it lies in memory -/
structure ActM where
  kind : Nat
  a : ByteArray
  b : ByteArray
  at_ : Int
  dA : Option Addr
  dl : List UInt8
  dc : Nat
  kA : Option Addr
  kl : List Int
  kc : Nat
def ActM.cells (x : ActM) : List Value := [.int .u8 (x.kind : Nat), .string x.a, .string x.b, .int .i64 x.at_, .slice x.dA x.dl.length x.dc, .slice x.kA x.kl.length x.kc]
structure ActOk (w : World) (B : Nat) (x : ActM) : Prop where
  kind : x.kind ≤ 255
  a : x.a.size ≤ maxLen
  b : x.b.size ≤ maxLen
  at_ : -9223372036854775808 ≤ x.at_ ∧ x.at_ ≤ 9223372036854775807
  dlc : x.dl.length ≤ x.dc ∧ x.dc ≤ maxLen
  dr : Reads w B 1 x.dA x.dl.length (u8s x.dl)
  klc : x.kl.length ≤ x.kc ∧ x.kc ≤ maxLen
  kv : ∀ v ∈ x.kl, -9223372036854775808 ≤ v ∧ v ≤ 9223372036854775807
  kr : Reads w B 1 x.kA x.kl.length (i64s x.kl)
theorem ActOk.below {w w' : World} {B : Nat} {x : ActM} (h : ActOk w B x) (hb : Below B w w') : ActOk w' B x :=
  ⟨h.kind, h.a, h.b, h.at_, h.dlc, h.dr.below hb, h.klc, h.kv, h.kr.below hb⟩
section
variable {H : Type} {enc : TypeId × Value → H} {P : Program} {w : World} {base : Nat} {spare : Nat → Bool} {held : Bool}
theorem open_u8row {t e : TypeId} {fuel : Nat} {v : Value} {x : DataW H × List MemPlace} (ht : P.underlying t = some (.slice e)) (he : P.underlying e = some (.int .u8)) (hc : P.cellsOf e = 1) (hby : 1 ≤ P.bytesOf e) (h : DataW.trod enc P w base spare held fuel t [v] = some x) :
    ∃ (A : Option Addr) (l : List UInt8) (c : Nat), v = .slice A l.length c ∧ l.length ≤ c ∧ c ≤ maxLen ∧ Reads w w.heap.size 1 A l.length (u8s l) ∧ ∀ R, (∀ k ∈ x.1.weights P t, k ≤ R) → l.length ≤ R := by
  rcases open_ints ht he hc h with ⟨hcs, _⟩ | ⟨a, len, cap, zs, hcs, _, hl, hm, hz, hx, hcell, hwf⟩
  · injection hcs with h1 _
    exact ⟨none, [], 0, h1, Nat.le_refl _, Nat.zero_le _, Reads.none_, fun R _ => Nat.zero_le _⟩
  · injection hcs with h1 _
    have hlen : len ≤ zs.length := by rw [hz]; split <;> omega
    have hll : ((zs.take len).map fun z => UInt8.ofNat z.toNat).length = len := by simp; omega
    refine ⟨some a, (zs.take len).map fun z => UInt8.ofNat z.toNat, cap, by rw [hll]; exact h1, by omega, hm, ⟨by rw [u8s_length]; omega, fun hn => ⟨a, rfl, ?_, ?_⟩⟩, fun R hR => ?_⟩
    · rw [hll] at hn
      have := cell_lt (hcell 0 (by omega))
      rwa [block_of_add] at this
    · intro j u hj
      rw [u8s_get, List.getElem?_map] at hj
      rcases Nat.lt_or_ge j len with h | h
      · have hq : (zs.take len)[j]? = some (zs[j]'(by omega)) := by rw [List.getElem?_take, if_pos h, List.getElem?_eq_getElem (by omega)]
        rw [hq] at hj
        simp only [Option.map_some, Option.some.injEq] at hj
        subst hj
        have hb := hwf _ (List.getElem_mem (l := zs) (n := j) (by omega))
        simp only [Lit.wf, Bool.and_eq_true, decide_eq_true_eq] at hb
        have hb' : 0 ≤ zs[j] ∧ zs[j] ≤ 255 := hb
        rw [u8_nat _ (by omega), Int.toNat_of_nonneg hb'.1, hcell j (by omega), List.getD_eq_getElem?_getD, List.getElem?_eq_getElem (by omega)]
        rfl
      · rw [List.getElem?_eq_none (by simp; omega)] at hj; cases hj
    · rw [hll]
      have hq := hR ((zs.take len).length * P.bytesOf e + (zs.drop len).length * P.bytesOf e) (by
        rw [hx]
        simp [DataW.weights, ht, lits, Nat.add_mul])
      have e1 : (zs.take len).length = len := by rw [List.length_take]; omega
      have e2 : (zs.take len).length * 1 ≤ (zs.take len).length * P.bytesOf e := Nat.mul_le_mul_left _ hby
      omega
theorem open_i64row {t e : TypeId} {fuel : Nat} {v : Value} {x : DataW H × List MemPlace} (ht : P.underlying t = some (.slice e)) (he : P.underlying e = some (.int .i64)) (hc : P.cellsOf e = 1) (hby : 1 ≤ P.bytesOf e) (h : DataW.trod enc P w base spare held fuel t [v] = some x) :
    ∃ (A : Option Addr) (l : List Int) (c : Nat), v = .slice A l.length c ∧ l.length ≤ c ∧ c ≤ maxLen ∧ (∀ v ∈ l, -9223372036854775808 ≤ v ∧ v ≤ 9223372036854775807) ∧ Reads w w.heap.size 1 A l.length (i64s l) ∧ ∀ R, (∀ k ∈ x.1.weights P t, k ≤ R) → l.length ≤ R := by
  rcases open_ints ht he hc h with ⟨hcs, _⟩ | ⟨a, len, cap, zs, hcs, _, hl, hm, hz, hx, hcell, hwf⟩
  · injection hcs with h1 _
    exact ⟨none, [], 0, h1, Nat.le_refl _, Nat.zero_le _, fun v hv => (by cases hv), Reads.none_, fun R _ => Nat.zero_le _⟩
  · injection hcs with h1 _
    have hlen : len ≤ zs.length := by rw [hz]; split <;> omega
    have hll : (zs.take len).length = len := by simp; omega
    refine ⟨some a, zs.take len, cap, by rw [hll]; exact h1, by omega, hm, fun v hv => ?_, ⟨by simp [i64s], fun hn => ⟨a, rfl, ?_, ?_⟩⟩, fun R hR => ?_⟩
    · have := hwf v (List.mem_of_mem_take hv)
      simp only [Lit.wf, Bool.and_eq_true, decide_eq_true_eq] at this
      exact this
    · rw [hll] at hn
      have := cell_lt (hcell 0 (by omega))
      rwa [block_of_add] at this
    · intro j u hj
      unfold i64s at hj
      rw [List.getElem?_map] at hj
      rcases Nat.lt_or_ge j len with h | h
      · have hq : (zs.take len)[j]? = some (zs[j]'(by omega)) := by rw [List.getElem?_take, if_pos h, List.getElem?_eq_getElem (by omega)]
        rw [hq] at hj
        simp only [Option.map_some, Option.some.injEq] at hj
        subst hj
        rw [hcell j (by omega), List.getD_eq_getElem?_getD, List.getElem?_eq_getElem (by omega)]
        rfl
      · rw [List.getElem?_eq_none (by simp; omega)] at hj; cases hj
    · rw [hll]
      have hq := hR ((zs.take len).length * P.bytesOf e + (zs.drop len).length * P.bytesOf e) (by
        rw [hx]
        simp [DataW.weights, ht, lits, Nat.add_mul])
      have e1 : (zs.take len).length = len := by rw [List.length_take]; omega
      have e2 : (zs.take len).length * 1 ≤ (zs.take len).length * P.bytesOf e := Nat.mul_le_mul_left _ hby
      omega
/-- what an act holds is at most so long -/
structure ActSmall (x : ActM) (R : Nat) : Prop where
  a : x.a.size ≤ R
  b : x.b.size ≤ R
  d : x.dl.length ≤ R
  k : x.kl.length ≤ R
/-- six cells that read as an act's struct are an act -/
theorem act_of {t tk ts ti td tn e0 e1 : TypeId} {fs : Array Field} {f0 f1 f2 f3 f4 f5 : Field} (ht : P.underlying t = some (.struct fs)) (hfs : fs = #[f0, f1, f2, f3, f4, f5]) (hone : oneCellFields P fs = true) (hC : P.cellsOf t = 6)
    (ht0 : f0.type = tk) (ht1 : f1.type = ts) (ht2 : f2.type = ts) (ht3 : f3.type = ti) (ht4 : f4.type = td) (ht5 : f5.type = tn)
    (hk : P.underlying tk = some (.int .u8)) (hs : P.underlying ts = some .string) (hi : P.underlying ti = some (.int .i64)) (hd : P.underlying td = some (.slice e0)) (hd0 : P.underlying e0 = some (.int .u8)) (hdc : P.cellsOf e0 = 1) (hdb : 1 ≤ P.bytesOf e0) (hn : P.underlying tn = some (.slice e1)) (hn0 : P.underlying e1 = some (.int .i64)) (hnc : P.cellsOf e1 = 1) (hnb : 1 ≤ P.bytesOf e1)
    {l : List Value} {fuel : Nat} {dx : DataW H × List MemPlace} (hf : DataW.trod enc P w base spare held fuel t l = some dx) : ∃ x : ActM, l = x.cells ∧ ActOk w w.heap.size x ∧ ∀ R, (∀ k ∈ dx.1.weights P t, k ≤ R) → ActSmall x R := by
  subst hfs
  obtain ⟨ys, n, _, hdx, hll, hyl, hat⟩ := DataW.trod_struct ht hf
  have hyl6 : ys.length = 6 := hyl
  rw [hC] at hll
  obtain ⟨c0, c1, c2, c3, c4, c5, rfl⟩ : ∃ c0 c1 c2 c3 c4 c5, l = [c0, c1, c2, c3, c4, c5] := by
    match l, hll with
    | [c0, c1, c2, c3, c4, c5], _ => exact ⟨c0, c1, c2, c3, c4, c5, rfl⟩
  obtain ⟨y0, y1, y2, y3, y4, y5, rfl⟩ : ∃ y0 y1 y2 y3 y4 y5, ys = [y0, y1, y2, y3, y4, y5] := by
    match ys, hyl6 with
    | [c0, c1, c2, c3, c4, c5], _ => exact ⟨c0, c1, c2, c3, c4, c5, rfl⟩
  have each : ∀ (j : Nat) (f : Field) (c : Value) (y : DataW H × List MemPlace), (#[f0, f1, f2, f3, f4, f5] : Array Field)[j]? = some f → [c0, c1, c2, c3, c4, c5][j]? = some c → [y0, y1, y2, y3, y4, y5][j]? = some y → DataW.trod enc P w base spare held n f.type [c] = some y := by
    intro j f c y hj hc hy
    obtain ⟨ho, hk⟩ := hone_of hone j f hj
    have h1 := hat j f hj
    rw [ho, hk] at h1
    have hjl : j < 6 := by
      have := (Array.getElem?_eq_some_iff.1 hj).1
      simpa using this
    have hd1 : (List.drop j [c0, c1, c2, c3, c4, c5]).take 1 = [c] := by
      have hjl' : j < [c0, c1, c2, c3, c4, c5].length := by simpa using hjl
      rw [List.drop_eq_getElem_cons hjl']
      rw [List.getElem?_eq_getElem hjl'] at hc
      injection hc with hc
      rw [hc]
      rfl
    rw [hd1] at h1
    exact h1.trans hy
  have g0 := each 0 f0 c0 y0 rfl rfl rfl
  have g1 := each 1 f1 c1 y1 rfl rfl rfl
  have g2 := each 2 f2 c2 y2 rfl rfl rfl
  have g3 := each 3 f3 c3 y3 rfl rfl rfl
  have g4 := each 4 f4 c4 y4 rfl rfl rfl
  have g5 := each 5 f5 c5 y5 rfl rfl rfl
  rw [ht0] at g0
  rw [ht1] at g1
  rw [ht2] at g2
  rw [ht3] at g3
  rw [ht4] at g4
  rw [ht5] at g5
  obtain ⟨z0, e0, _, w0⟩ := DataW.trod_int hk g0
  obtain ⟨s1, e1, x1, w1⟩ := DataW.trod_string hs g1
  obtain ⟨s2, e2, x2, w2⟩ := DataW.trod_string hs g2
  obtain ⟨z3, e3, _, w3⟩ := DataW.trod_int hi g3
  obtain ⟨A4, l4, c4', e4, m4, k4, r4, q4⟩ := open_u8row hd hd0 hdc hdb g4
  obtain ⟨A5, l5, c5', e5, m5, k5, v5, r5, q5⟩ := open_i64row hn hn0 hnc hnb g5
  simp only [List.cons.injEq, and_true] at e0 e1 e2 e3
  subst e0 e1 e2 e3 e4 e5
  simp only [Lit.wf, Bool.and_eq_true, decide_eq_true_eq] at w0 w3
  have w0' : 0 ≤ z0 ∧ z0 ≤ 255 := w0
  refine ⟨⟨z0.toNat, s1, s2, z3, A4, l4, c4', A5, l5, c5'⟩, ?_, ⟨by show z0.toNat ≤ 255; omega, w1, w2, w3, ⟨m4, k4⟩, r4, ⟨m5, k5⟩, v5, r5⟩, fun R hR => ?_⟩
  · unfold ActM.cells
    simp only
    rw [Int.toNat_of_nonneg w0'.1]
  · rw [hdx] at hR
    have hw : ∀ (j : Nat) (u : TypeId) (y : DataW H × List MemPlace), [tk, ts, ts, ti, td, tn][j]? = some u → [y0, y1, y2, y3, y4, y5][j]? = some y → ∀ k ∈ y.1.weights P u, k ≤ R := by
      intro j u y hj hy k hk
      refine hR k ?_
      have hm := DataW.weights_mem_each (P := P) (ts := [tk, ts, ts, ti, td, tn]) (ds := [y0.1, y1.1, y2.1, y3.1, y4.1, y5.1]) (j := j) (t := u) (d := y.1) hj (by
        rw [show [y0.1, y1.1, y2.1, y3.1, y4.1, y5.1] = [y0, y1, y2, y3, y4, y5].map (·.1) from rfl, List.getElem?_map, hy]; rfl) k hk
      show k ∈ DataW.weights P t (.agg _)
      unfold DataW.weights
      rw [ht]
      simp only [List.map_cons, List.map_nil, ht0, ht1, ht2, ht3, ht4, ht5]
      exact hm
    have h1 := hw 1 ts y1 rfl rfl
    have h2 := hw 2 ts y2 rfl rfl
    rw [x1] at h1
    rw [x2] at h2
    refine ⟨?_, ?_, q4 R (hw 4 td y4 rfl rfl), q5 R (hw 5 tn y5 rfl rfl)⟩
    · have := h1 s1.data.toList.length (by simp [DataW.weights])
      simpa using this
    · have := h2 s2.data.toList.length (by simp [DataW.weights])
      simpa using this
theorem open_act {r : Reach} {b0 : Nat} {t tk ts ti td tn e0 e1 : TypeId} {fs : Array Field} {f0 f1 f2 f3 f4 f5 : Field} (ht : P.underlying t = some (.struct fs)) (hfs : fs = #[f0, f1, f2, f3, f4, f5]) (hone : oneCellFields P fs = true) (hC : P.cellsOf t = 6)
    (ht0 : f0.type = tk) (ht1 : f1.type = ts) (ht2 : f2.type = ts) (ht3 : f3.type = ti) (ht4 : f4.type = td) (ht5 : f5.type = tn)
    (hk : P.underlying tk = some (.int .u8)) (hs : P.underlying ts = some .string) (hi : P.underlying ti = some (.int .i64)) (hd : P.underlying td = some (.slice e0)) (hd0 : P.underlying e0 = some (.int .u8)) (hdc : P.cellsOf e0 = 1) (hdb : 1 ≤ P.bytesOf e0) (hn : P.underlying tn = some (.slice e1)) (hn0 : P.underlying e1 = some (.int .i64)) (hnc : P.cellsOf e1 = 1) (hnb : 1 ≤ P.bytesOf e1)
    {v : Value} {d : DataW H} {ps : List MemPlace} (hv : Value.okWide P w r b0 t v) (h : DataW.Trod enc P w base spare held t v d ps) : ∃ x : ActM, v = .agg x.cells.toArray ∧ ActOk w w.heap.size x ∧ ∀ R, (∀ k ∈ d.weights P t, k ≤ R) → ActSmall x R := by
  obtain ⟨cs, rfl, _⟩ := okWide_struct ht hv
  obtain ⟨fuel, hf⟩ := h
  obtain ⟨x, hx, hok, hsm⟩ := act_of ht hfs hone hC ht0 ht1 ht2 ht3 ht4 ht5 hk hs hi hd hd0 hdc hdb hn hn0 hnc hnb hf
  refine ⟨x, ?_, hok, hsm⟩
  obtain ⟨l⟩ := cs
  have hx' : l = x.cells := hx
  rw [hx']
/-- a row of acts -/
def actCells (l : List ActM) : List Value := l.flatMap ActM.cells
theorem actCells_length : ∀ l : List ActM, (actCells l).length = l.length * 6
  | [] => rfl
  | x :: r => by
    have := actCells_length r
    unfold actCells at this ⊢
    rw [List.flatMap_cons, List.length_append, this, List.length_cons]
    show 6 + _ = _
    omega
theorem actCells_at : ∀ (l : List ActM) (i : Nat) (x : ActM), l[i]? = some x → ∀ j, j < 6 → (actCells l)[i * 6 + j]? = x.cells[j]?
  | y :: r, 0, x, h, j, hj => by
    injection h with h
    subst h
    unfold actCells
    rw [List.flatMap_cons, List.getElem?_append_left (by show 0 * 6 + j < 6; omega), Nat.zero_mul, Nat.zero_add]
  | y :: r, i + 1, x, h, j, hj => by
    have ih := actCells_at r i x h j hj
    unfold actCells at ih ⊢
    rw [List.flatMap_cons, List.getElem?_append_right (by show 6 ≤ _; omega)]
    have e : (i + 1) * 6 + j - y.cells.length = i * 6 + j := by show (i + 1) * 6 + j - 6 = _; omega
    rw [e]
    exact ih
theorem mem_weightsAll {e : TypeId} {dd : DataW H} {k : Nat} : ∀ {l : List (DataW H)}, dd ∈ l → k ∈ dd.weights P e → k ∈ DataW.weightsAll P e l
  | y :: r, h, hk => by
    unfold DataW.weightsAll
    rw [List.mem_append]
    rcases List.mem_cons.1 h with rfl | h
    · exact .inl hk
    · exact .inr (mem_weightsAll h hk)
theorem open_acts {r : Reach} {b0 : Nat} {t e tk ts ti td tn e0 e1 : TypeId} {fs : Array Field} {f0 f1 f2 f3 f4 f5 : Field} (ht : P.underlying t = some (.slice e)) (he : P.underlying e = some (.struct fs)) (hfs : fs = #[f0, f1, f2, f3, f4, f5]) (hone : oneCellFields P fs = true) (hC : P.cellsOf e = 6) (heb : 1 ≤ P.bytesOf e)
    (ht0 : f0.type = tk) (ht1 : f1.type = ts) (ht2 : f2.type = ts) (ht3 : f3.type = ti) (ht4 : f4.type = td) (ht5 : f5.type = tn)
    (hk : P.underlying tk = some (.int .u8)) (hs : P.underlying ts = some .string) (hi : P.underlying ti = some (.int .i64)) (hd : P.underlying td = some (.slice e0)) (hd0 : P.underlying e0 = some (.int .u8)) (hdc : P.cellsOf e0 = 1) (hdb : 1 ≤ P.bytesOf e0) (hn : P.underlying tn = some (.slice e1)) (hn0 : P.underlying e1 = some (.int .i64)) (hnc : P.cellsOf e1 = 1) (hnb : 1 ≤ P.bytesOf e1)
    {v : Value} {d : DataW H} {ps : List MemPlace} (hv : Value.okWide P w r b0 t v) (h : DataW.Trod enc P w base spare held t v d ps) :
    ∃ (A : Option Addr) (c : Nat) (l : List ActM), v = .slice A l.length c ∧ Reads w w.heap.size 6 A l.length (actCells l) ∧ (∀ x ∈ l, ActOk w w.heap.size x) ∧ ∀ R, (∀ k ∈ d.weights P t, k ≤ R) → l.length ≤ R ∧ ∀ x ∈ l, ActSmall x R := by
  obtain ⟨A, len, cap, rfl⟩ := okWide_slice ht hv
  obtain ⟨fuel, hf⟩ := h
  rcases open_slice ht hf with ⟨hcs, _⟩ | ⟨a, len', cap', m, n0, D, Pl, hcs, _, hl, hm, hmm, hdx, hx⟩
  · simp [Value.cells] at hcs
    obtain ⟨rfl, rfl, rfl⟩ := hcs
    exact ⟨none, 0, [], rfl, ⟨rfl, fun hn => absurd hn (by simp)⟩, fun x hx => (by cases hx), fun R _ => ⟨Nat.zero_le _, fun x hx => (by cases hx)⟩⟩
  · simp [Value.cells] at hcs
    obtain ⟨rfl, rfl, rfl⟩ := hcs
    have hml : len ≤ m := by rw [hmm]; split <;> omega
    have hdw : d = .slice ((List.range len).map D) ((List.range (m - len)).map fun j => D (len + j)) := congrArg Prod.fst hdx
    rw [hC] at hx
    have hall : ∀ n, n ≤ len → ∃ l : List ActM, l.length = n ∧ (∀ x ∈ l, ActOk w w.heap.size x ∧ ∀ R, (∀ k ∈ d.weights P t, k ≤ R) → ActSmall x R) ∧ ∀ i x, l[i]? = some x → ∀ j u, x.cells[j]? = some u → w.cell? (a.add (i * 6 + j)) = some u := by
      intro n
      induction n with
      | zero => intro _; exact ⟨[], rfl, by simp, by simp⟩
      | succ n ih =>
        intro hnl
        obtain ⟨l, hl1, hl2, hl3⟩ := ih (by omega)
        obtain ⟨cs', hcc, htr⟩ := hx n (by omega)
        obtain ⟨x, hxc, hok, hsm⟩ := act_of he hfs hone hC ht0 ht1 ht2 ht3 ht4 ht5 hk hs hi hd hd0 hdc hdb hn hn0 hnc hnb htr
        obtain ⟨_, _, hat⟩ := World.cells?_some hcc
        refine ⟨l ++ [x], by simp [hl1], ?_, ?_⟩
        · intro y hy
          rcases List.mem_append.1 hy with h | h
          · exact hl2 y h
          · simp at h
            subst h
            refine ⟨hok, fun R hR => hsm R fun k hk' => hR k ?_⟩
            rw [hdw]
            unfold DataW.weights
            rw [ht]
            simp only [List.mem_cons, List.mem_append]
            exact .inr (.inl (mem_weightsAll (List.mem_map.2 ⟨n, List.mem_range.2 (by omega), rfl⟩) hk'))
        · intro i y hi j u hj
          rcases Nat.lt_or_ge i l.length with h | h
          · rw [List.getElem?_append_left h] at hi; exact hl3 i y hi j u hj
          · rw [List.getElem?_append_right h] at hi
            have h0 : i - l.length = 0 := by
              rcases Nat.eq_zero_or_pos (i - l.length) with h' | h'
              · exact h'
              · rw [List.getElem?_eq_none (by simp; omega)] at hi; cases hi
            rw [h0] at hi
            simp at hi
            subst hi
            obtain rfl : i = n := by omega
            have hj6 : j < 6 := by
              rcases Nat.lt_or_ge j 6 with h' | h'
              · exact h'
              · rw [List.getElem?_eq_none (by show 6 ≤ j; omega)] at hj; cases hj
            rw [← hxc] at hj
            have := hat j hj6
            rw [hj, Go.Deep.add_add] at this
            exact this
    obtain ⟨l, rfl, hb, hc⟩ := hall len (Nat.le_refl _)
    refine ⟨some a, cap, l, rfl, ⟨actCells_length l, fun hn => ⟨a, rfl, ?_, ?_⟩⟩, fun x hx => (hb x hx).1, fun R hR => ⟨?_, fun x hx => (hb x hx).2 R hR⟩⟩
    · have := hc 0 (l[0]'hn) (List.getElem?_eq_getElem hn) 0 _ rfl
      have := cell_lt this
      rwa [block_of_add] at this
    · intro j u hj
      have hjl : j < (actCells l).length := by
        rcases Nat.lt_or_ge j (actCells l).length with h | h
        · exact h
        · rw [List.getElem?_eq_none h] at hj; cases hj
      rw [actCells_length] at hjl
      have hq : l[j / 6]? = some (l[j / 6]'(by omega)) := List.getElem?_eq_getElem (by omega)
      have e : j = j / 6 * 6 + j % 6 := by omega
      have hj' : (actCells l)[j / 6 * 6 + j % 6]? = some u := by rw [← e]; exact hj
      rw [actCells_at l _ _ hq (j % 6) (by omega)] at hj'
      exact (congrArg (fun q => w.cell? (a.add q)) e).trans (hc _ _ hq _ _ hj')
    · have hq := hR ((l.length + (m - l.length)) * P.bytesOf e) (by rw [hdw]; simp [DataW.weights, ht])
      have e2 : (l.length + (m - l.length)) * 1 ≤ (l.length + (m - l.length)) * P.bytesOf e := Nat.mul_le_mul_left _ heb
      omega
end
theorem sized_at {H : Type} {P : Program} {ts : List TypeId} {ds : List (DataW H)} (h : (DataW.weightsEach P ts ds).all (· ≤ reachBytes) = true) {j : Nat} {t : TypeId} {d : DataW H} (ht : ts[j]? = some t) (hd : ds[j]? = some d) : ∀ k ∈ d.weights P t, k ≤ 140737488355328 := by
  intro k hk
  have := List.all_eq_true.1 h _ (DataW.weights_mem_each ht hd k hk)
  have h2 : reachBytes < 2 ^ 47 := reachBytes_lt
  simp only [decide_eq_true_eq] at this
  omega
theorem add_k (ad : Addr) (j k : Nat) (hk : 0 < k) : ad.add (j + k) = ⟨(ad.add j).block, (ad.add j).off + k, none⟩ := by
  unfold Addr.add
  by_cases h : j = 0
  · subst h
    have : ¬ k = 0 := by omega
    simp [this]
  · have : ¬ j + k = 0 := by omega
    simp [h]
    omega
end Go.Proofs.Ytplbclbeccoegaa
