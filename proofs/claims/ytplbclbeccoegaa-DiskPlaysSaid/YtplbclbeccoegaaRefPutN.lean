/-
  Walk of the document's disk: put, the file being new.
-/
import Derived.Test.YtplbclbeccoegaaRefPut
import Derived.BigRegion
namespace Go.Proofs.Ytplbclbeccoegaa
open Go.RowKit Go.Maps
attribute [local go_sem ↓ 100000] builtin_append_files
theorem lit_reads {w : World} {lb : Nat} {x : Key × FV} {cs : Array Value} (h : Blk w lb 61 cs) (hcs : cs.toList = rcell x) : Reads w w.heap.size 4 (some ⟨lb, 0, none⟩) 1 (rcells [x]) := by
  have e : rcells [x] = rcell x := by simp [rcells]
  refine ⟨by rw [rcells_length]; rfl, fun _ => ⟨⟨lb, 0, none⟩, rfl, h.lt, fun j u hu => ?_⟩⟩
  have ha : (⟨lb, 0, none⟩ : Addr).add j = ⟨lb, j, none⟩ := by unfold Addr.add; split <;> simp_all
  rw [ha, h.cell, ← hu, e, ← hcs]
  simp
/-- three appends, the file's own row being there already -/
theorem chain_core {W X : World} (hb : Below W.heap.size W X) {v0 : Value} (h0 : FRow X W.heap.size v0 []) {lb : Nat} {x : Key × FV} {cs : Array Value} (hl : Blk X lb 61 cs) (hcs : cs.toList = rcell x) (hne : v0.ownBlock ≠ some lb)
    {es : List (Key × FV)} {A A' : Option Addr} {m c m' c' : Nat} (hm : m ≤ es.length) (hlen : es.length ≤ 100000) (hr : ∀ w, Below W.heap.size W w → Reads w W.heap.size 4 A m (rcells (es.take m))) (hm' : m' = es.length - m) (hr' : ∀ w, Below W.heap.size W w → Reads w W.heap.size 4 A' m' (rcells (es.drop m))) :
    ∃ A2 n2 c2 w2 A3 n3 c3 w3 A4 n4 c4 w4, (appendS #[v0, .slice A m c]).run Try.prog X = .ok (.value (.slice A2 n2 c2)) w2 ∧ (appendS #[.slice A2 n2 c2, .slice (some ⟨lb, 0, none⟩) 1 1]).run Try.prog w2 = .ok (.value (.slice A3 n3 c3)) w3 ∧
      (appendS #[.slice A3 n3 c3, .slice A' m' c']).run Try.prog w3 = .ok (.value (.slice A4 n4 c4)) w4 ∧ FRow w4 W.heap.size (.slice A4 n4 c4) (es.take m ++ x :: es.drop m) ∧ Below W.heap.size W w4 ∧ Below W.heap.size W w2 ∧ Below W.heap.size W w3 := by
  obtain ⟨v2, w2, hrun, h2, g2⟩ := run_append_files h0 c (gs := es.take m) (by rw [List.length_take]; omega) (hr X hb) (by rw [List.length_take, List.length_nil]; omega) hb.size 30
  obtain ⟨A2, c2, rfl, _, _⟩ := h2.reads
  have hb2 := hb.grown g2 hb.size fun k hk => (h0.lt k hk).1
  have hl2 : Blk w2 lb 61 cs := hl.grown g2 (fun e => hne e.symm)
  obtain ⟨A3, n3, c3, w3, E2, F2, B2⟩ := run_append_fresh hb2 h2 (gs := [x]) 1 rfl (lit_reads hl2 hcs) (by rw [List.length_append, List.length_nil, List.length_take, List.length_singleton]; omega)
  obtain ⟨A4, n4, c4, w4, E3, F3, B3⟩ := run_append_fresh B2 F2 (gs := es.drop m) c' (by rw [List.length_drop]; exact hm') (hr' w3 B2) (by rw [List.length_append, List.length_append, List.length_nil, List.length_take, List.length_singleton, List.length_drop]; omega)
  refine ⟨A2, _, c2, w2, A3, n3, c3, w3, A4, n4, c4, w4, by unfold appendS; simp only [Sem.run_bind, hrun, Result.andThen_ok, Sem.run_pure], E2, E3, ?_, B3, hb2, B2⟩
  simpa using F3
/-- the file's own row being laid behind the first append -/
theorem chain_late {W X : World} (hb : Below W.heap.size W X) {v0 : Value} (h0 : FRow X W.heap.size v0 []) {x : Key × FV} {cs : Array Value} (hcs : cs.toList = rcell x)
    {es : List (Key × FV)} {A A' : Option Addr} {m c m' c' : Nat} (hm : m ≤ es.length) (hlen : es.length ≤ 100000) (hr : ∀ w, Below W.heap.size W w → Reads w W.heap.size 4 A m (rcells (es.take m))) (hm' : m' = es.length - m) (hr' : ∀ w, Below W.heap.size W w → Reads w W.heap.size 4 A' m' (rcells (es.drop m))) :
    ∃ A2 n2 c2 w2 A3 n3 c3 w3 A4 n4 c4 w4, (appendS #[v0, .slice A m c]).run Try.prog X = .ok (.value (.slice A2 n2 c2)) w2 ∧ (appendS #[.slice A2 n2 c2, .slice (some ⟨w2.heap.size, 0, none⟩) 1 1]).run Try.prog (w2.alloc (.cells cs 61)) = .ok (.value (.slice A3 n3 c3)) w3 ∧
      (appendS #[.slice A3 n3 c3, .slice A' m' c']).run Try.prog w3 = .ok (.value (.slice A4 n4 c4)) w4 ∧ FRow w4 W.heap.size (.slice A4 n4 c4) (es.take m ++ x :: es.drop m) ∧ Below W.heap.size W w4 ∧ Below W.heap.size W w2 ∧ Below W.heap.size W w3 := by
  obtain ⟨A2, n2, c2, w2, E1, F1, B1⟩ := run_append_fresh hb h0 (gs := es.take m) c (by rw [List.length_take]; omega) (hr X hb) (by rw [List.length_take, List.length_nil]; omega)
  obtain ⟨A3, n3, c3, w3, E2, F2, B2⟩ := run_append_fresh (B1.alloc B1.size (.cells cs 61)) (F1.alloc _) (gs := [x]) 1 rfl (lit_reads (Blk.new w2 61 cs) hcs) (by rw [List.length_append, List.length_nil, List.length_take, List.length_singleton]; omega)
  obtain ⟨A4, n4, c4, w4, E3, F3, B3⟩ := run_append_fresh B2 F2 (gs := es.drop m) c' (by rw [List.length_drop]; exact hm') (hr' w3 B2) (by rw [List.length_append, List.length_append, List.length_nil, List.length_take, List.length_singleton, List.length_drop]; omega)
  exact ⟨A2, n2, c2, w2, A3, n3, c3, w3, A4, n4, c4, w4, E1, E2, E3, by simpa using F3, B3, B1, B2⟩
/-- what the three orders come to -/
structure Ends (W w2 w3 w4 : World) (A4 : Option Addr) (n4 c4 : Nat) (l : List (Key × FV)) : Prop where
  row : FRow w4 W.heap.size (.slice A4 n4 c4) l
  b2 : Below W.heap.size W w2
  b3 : Below W.heap.size W w3
  b4 : Below W.heap.size W w4
theorem chains (wr : World) {x : Key × FV} {cs : Array Value} (hcs : cs.toList = rcell x) {es : List (Key × FV)} {A A' : Option Addr} {m c m' c' : Nat} (hm : m ≤ es.length) (hlen : es.length ≤ 100000) (hr : ∀ w, Below wr.heap.size wr w → Reads w wr.heap.size 4 A m (rcells (es.take m))) (hm' : m' = es.length - m) (hr' : ∀ w, Below wr.heap.size wr w → Reads w wr.heap.size 4 A' m' (rcells (es.drop m))) :
    (∃ A2 n2 c2 w2 A3 n3 c3 w3 A4 n4 c4 w4, (appendS #[.slice (some ⟨wr.heap.size, 0, none⟩) 0 0, .slice A m c]).run Try.prog ((wr.alloc (.cells #[] 61)).alloc (.cells cs 61)).drew.drew = .ok (.value (.slice A2 n2 c2)) w2 ∧ (appendS #[.slice A2 n2 c2, .slice (some ⟨wr.heap.size + 1, 0, none⟩) 1 1]).run Try.prog w2 = .ok (.value (.slice A3 n3 c3)) w3 ∧ (appendS #[.slice A3 n3 c3, .slice A' m' c']).run Try.prog w3 = .ok (.value (.slice A4 n4 c4)) w4 ∧ Ends wr w2 w3 w4 A4 n4 c4 (es.take m ++ x :: es.drop m)) ∧
    (∃ A2 n2 c2 w2 A3 n3 c3 w3 A4 n4 c4 w4, (appendS #[.slice (some ⟨wr.heap.size + 1, 0, none⟩) 0 0, .slice A m c]).run Try.prog ((wr.alloc (.cells cs 61)).alloc (.cells #[] 61)).drew.drew = .ok (.value (.slice A2 n2 c2)) w2 ∧ (appendS #[.slice A2 n2 c2, .slice (some ⟨wr.heap.size, 0, none⟩) 1 1]).run Try.prog w2 = .ok (.value (.slice A3 n3 c3)) w3 ∧ (appendS #[.slice A3 n3 c3, .slice A' m' c']).run Try.prog w3 = .ok (.value (.slice A4 n4 c4)) w4 ∧ Ends wr w2 w3 w4 A4 n4 c4 (es.take m ++ x :: es.drop m)) ∧
    (∃ A2 n2 c2 w2 A3 n3 c3 w3 A4 n4 c4 w4, (appendS #[.slice (some ⟨wr.heap.size, 0, none⟩) 0 0, .slice A m c]).run Try.prog (wr.alloc (.cells #[] 61)).drew.drew = .ok (.value (.slice A2 n2 c2)) w2 ∧ (appendS #[.slice A2 n2 c2, .slice (some ⟨w2.heap.size, 0, none⟩) 1 1]).run Try.prog (w2.alloc (.cells cs 61)) = .ok (.value (.slice A3 n3 c3)) w3 ∧ (appendS #[.slice A3 n3 c3, .slice A' m' c']).run Try.prog w3 = .ok (.value (.slice A4 n4 c4)) w4 ∧ Ends wr w2 w3 w4 A4 n4 c4 (es.take m ++ x :: es.drop m)) := by
  have z1 : ∀ o : Obj, (wr.alloc o).heap.size = wr.heap.size + 1 := fun o => by simp
  have e1 : Below wr.heap.size wr (wr.alloc (.cells #[] 61)) := (Below.refl _ _).alloc (Nat.le_refl _) _
  have e2 : Below wr.heap.size wr (wr.alloc (.cells cs 61)) := (Below.refl _ _).alloc (Nat.le_refl _) _
  refine ⟨?_, ?_, ?_⟩
  · have hl : Blk ((wr.alloc (.cells #[] 61)).alloc (.cells cs 61)) (wr.heap.size + 1) 61 cs := by
      have := Blk.new (wr.alloc (.cells #[] 61)) 61 cs
      rwa [z1] at this
    obtain ⟨A2, n2, c2, w2, A3, n3, c3, w3, A4, n4, c4, w4, E1, E2, E3, F, b4, b2, b3⟩ := chain_core (W := wr) (e1.alloc e1.size _).drew.drew ((FRow.empty wr wr.heap.size (Nat.le_refl _)).alloc _).drew.drew hl.drew.drew hcs (by simp [Value.ownBlock]) (c := c) (c' := c') hm hlen hr hm' hr'
    exact ⟨A2, n2, c2, w2, A3, n3, c3, w3, A4, n4, c4, w4, E1, E2, E3, F, b2, b3, b4⟩
  · have hv : FRow ((wr.alloc (.cells cs 61)).alloc (.cells #[] 61)) wr.heap.size (.slice (some ⟨wr.heap.size + 1, 0, none⟩) 0 0) [] := by
      have := FRow.empty (wr.alloc (.cells cs 61)) wr.heap.size (by rw [z1]; omega)
      rwa [z1] at this
    obtain ⟨A2, n2, c2, w2, A3, n3, c3, w3, A4, n4, c4, w4, E1, E2, E3, F, b4, b2, b3⟩ := chain_core (W := wr) (e2.alloc e2.size _).drew.drew hv.drew.drew ((Blk.new wr 61 cs).alloc _).drew.drew hcs (by simp [Value.ownBlock]) (c := c) (c' := c') hm hlen hr hm' hr'
    exact ⟨A2, n2, c2, w2, A3, n3, c3, w3, A4, n4, c4, w4, E1, E2, E3, F, b2, b3, b4⟩
  · obtain ⟨A2, n2, c2, w2, A3, n3, c3, w3, A4, n4, c4, w4, E1, E2, E3, F, b4, b2, b3⟩ := chain_late (W := wr) e1.drew.drew (FRow.empty wr wr.heap.size (Nat.le_refl _)).drew.drew hcs (c := c) (c' := c') hm hlen hr hm' hr'
    exact ⟨A2, n2, c2, w2, A3, n3, c3, w3, A4, n4, c4, w4, E1, E2, E3, F, b2, b3, b4⟩
theorem put_new {w1 w4 : World} {B q cap m n4 c4 : Nat} {v : Value} {A4 : Option Addr} {es : List (Key × FV)} {fuse : Int} {lost : Bool} (h : RefAt w1 B q v es cap fuse lost) (hB : B ≤ w1.heap.size) (HB : Below w1.heap.size w1 w4) {k : Key} {f : FV} (hF : FRow w4 w1.heap.size (.slice A4 n4 c4) (es.take m ++ (k, f) :: es.drop m)) (hf : Bytes8 w1 f)
    (h1 : ∀ (i : Nat) y, i < m → es[i]? = some y → bytesBefore y.1 k = true) (hm : m ≤ es.length) (h2 : ∀ y, es[m]? = some y → bytesBefore y.1 k = false) (hn : fget k es = none) :
    (∃ v', RefAt (w4.setCell ⟨q, 1, none⟩ (.slice A4 n4 c4)) B q v' (fput k f es) cap fuse lost) ∧ TBut B q w1 (w4.setCell ⟨q, 1, none⟩ (.slice A4 n4 c4)) := by
  have hql := h.cells.lt
  have t4 := (TBut.of_below (B := B) (q := q) HB).set_ 1 (.slice A4 n4 c4)
  have hup := up_fput (k := k) (v := f) h.up
  rw [fput_ins h1 hm h2 hn] at hup ⊢
  have q4 := (h.cells.below HB hql).set_ 1 (.slice A4 n4 c4)
  have hr : FRow (w4.setCell ⟨q, 1, none⟩ (.slice A4 n4 c4)) B (.slice A4 n4 c4) (es.take m ++ (k, f) :: es.drop m) := (hF.mono hB).keep fun g hg => by
    refine Below.heap_setCell _ _ _ _ (fun e => ?_)
    have := (hF.lt g hg).1
    simp only at e
    omega
  refine ⟨⟨.slice A4 n4 c4, h.turn t4 q4 hr hup (fun x hx => ?_)⟩, t4⟩
  rcases List.mem_append.1 hx with hx | hx
  · exact .inl ⟨x, List.mem_of_mem_take hx, rfl⟩
  · rcases List.mem_cons.1 hx with rfl | hx
    · exact .inr (hf.tbut (by decide) h.cells t4)
    · exact .inl ⟨x, List.mem_of_mem_drop hx, rfl⟩
section
variable {w : World} {B q cap : Nat} {v : Value} {es : List (Key × FV)} {fuse : Int} {lost : Bool}
theorem before_step {es : List (Key × FV)} {m : Nat} {k : Key} {x : Key × FV} (h : ∀ (i : Nat) y, i < m → es[i]? = some y → bytesBefore y.1 k = true) (hx : es[m]? = some x) (hb : bytesBefore x.1 k = true) : ∀ (i : Nat) y, i < m + 1 → es[i]? = some y → bytesBefore y.1 k = true := fun i y hi hy => by
  rcases Nat.lt_or_ge i m with h1 | h1
  · exact h i y h1 hy
  · obtain rfl : i = m := by omega
    rw [hx] at hy
    injection hy with hy
    subst hy
    exact hb
set_option maxRecDepth 100000 in
set_option maxHeartbeats 1600000 in
theorem refPut_none (h : RefAt w B q v es cap fuse lost) (hB : B ≤ w.heap.size) (s : ByteArray) (hn : fget s.data.toList es = none) (hlen : es.length ≤ 100000) (f : FV) (hf : Bytes8 w f) :
    Calls Try.prog 32 #[.pointer (some ⟨q, 0, none⟩), .agg #[.string s, .slice f.a f.m.b.length f.c, .int .i64 (f.m.safe : Nat), .bool f.m.ever]] w fun e w' => e = .returned (.tuple #[]) ∧ (∃ v', RefAt w' B q v' (fput s.data.toList f es) cap fuse lost) ∧ TBut B q w w' := by
  have h0 : Below w.heap.size w (w.alloc (.cells #[.string s, .slice f.a f.m.b.length f.c, .int .i64 (f.m.safe : Nat), .bool f.m.ever] 61)) := (Below.refl _ _).alloc (Nat.le_refl _) _
  have hk : Blk (w.alloc (.cells #[.string s, .slice f.a f.m.b.length f.c, .int .i64 (f.m.safe : Nat), .bool f.m.ever] 61)) w.heap.size 61 #[.string s, .slice f.a f.m.b.length f.c, .int .i64 (f.m.safe : Nat), .bool f.m.ever] := heap_alloc_new w _
  have H0 := h.below h0
  have F0 := hf.below h0
  have T0 : TBut B q w (w.alloc (.cells #[.string s, .slice f.a f.m.b.length f.c, .int .i64 (f.m.safe : Nat), .bool f.m.ever] 61)) := .of_below h0
  have hB0 := Nat.le_trans hB h0.size
  generalize hW : w.alloc (.cells #[.string s, .slice f.a f.m.b.length f.c, .int .i64 (f.m.safe : Nat), .bool f.m.ever] 61) = w1 at *
  have HW := Lib.hid hW
  have Ha := Lib.hid (at_none H0 s hn (by omega))
  obtain ⟨A, c, rfl, hr, hc⟩ := H0.row.reads
  have hbx := hk.lt
  have HK := Lib.hid hk
  have HH := Lib.hid H0
  have HF := Lib.hid F0
  have HT := Lib.hid T0
  have HR := Lib.hid hr
  have HB0 := Lib.hid hB0
  have HN := Lib.hid hn
  clear h hf h0 hk H0 F0 T0 hW hn hr hB hB0
  go_enter Try.func32, Try.ntmps32
  go_wp2_with fail
  rw [show w.alloc (.cells #[.string s, .slice f.a f.m.b.length f.c, .int .i64 (f.m.safe : Nat), .bool f.m.ever] 61) = w1 from HW.out]
  refine Ha.out.mono ?_
  rintro e w2 ⟨rfl, hw2⟩
  have hw1 : w1 = w2 := hw2.symm
  rw [hw1] at HH HF HT HR HB0 HK Ha hbx
  clear hw1 hw2 HW Ha
  go_wp2
  go_loopw [5] (fun i wr => ∃ m : Nat, i = .int .i64 m ∧ m ≤ es.length ∧ Hid (∀ (i : Nat) y, i < m → es[i]? = some y → bytesBefore y.1 s.data.toList = true) ∧ Hid (Below w2.heap.size w2 wr)) (fun i _ => es.length - (intOf i).toNat)
  case atStart => exact ⟨0, rfl, by omega, fun i y hi => absurd hi (by omega), Below.refl _ _⟩
  case round =>
    obtain ⟨m, rfl, hm, hall, hb⟩ := hrel
    have c1 := (HH.out.below hb.out).c1
    have b0 : wr.cell? ⟨w.heap.size, 0, none⟩ = some (.string s) := by rw [(HK.out.below hb.out hbx).cell]; rfl
    by_cases hlt : m < es.length
    · obtain ⟨x, hx⟩ : ∃ x, es[m]? = some x := ⟨_, List.getElem?_eq_getElem hlt⟩
      obtain ⟨ad, rfl, hab, hcs⟩ := (HR.out.below hb.out).2 (by omega)
      obtain ⟨k0, _, _, _⟩ := file_at hcs hx
      have HX := Lib.hid hx
      have i0 : (0 : Int) ≤ (m : Int) := by omega
      have i1 : (m : Int) < (es.length : Int) := by omega
      clear hcs hx
      cases hbb : bytesBefore x.1 s.data.toList with
      | true =>
        have hst := Lib.hid (before_step hall.out HX.out hbb)
        have hl : Op.bytesLess x.1 s.data.toList = true := by rw [less_eq]; exact hbb
        have hl2 : Op.bytesLess x.1 s.toList = true := by rw [ByteArray.toList_eq]; exact hl
        clear hbb
        go_wp2
        go_region
        all_goals (try go_wp2)
        all_goals go_roundw
        case rel => exact ⟨m + 1, by go_num, by omega, hst, hb.out.drew⟩
        case measure => simp [intOf]; omega
      | false =>
        have hl : Op.bytesLess x.1 s.data.toList = false := by rw [less_eq]; exact hbb
        have hl2 : Op.bytesLess x.1 s.toList = false := by rw [ByteArray.toList_eq]; exact hl
        have hx2 : ∀ y, es[m]? = some y → bytesBefore y.1 s.data.toList = false := fun y hy => by rw [HX.out] at hy; injection hy with hy; subst hy; exact hbb
        have H7 := HH.out.below hb.out
        have HR7 := (HR.out.below hb.out).more hb.out.size
        have K7 := HK.out.below hb.out hbx
        have hb7 := K7.lt
        have hq7 := H7.cells.lt
        have f1 := H7.cells.frozen 1
        have b1 : wr.cell? ⟨w.heap.size, 1, none⟩ = some (.slice f.a f.m.b.length f.c) := by rw [K7.cell]; rfl
        have b2 : wr.cell? ⟨w.heap.size, 2, none⟩ = some (.int .i64 (f.m.safe : Nat)) := by rw [K7.cell]; rfl
        have b3 : wr.cell? ⟨w.heap.size, 3, none⟩ = some (.bool f.m.ever) := by rw [K7.cell]; rfl
        obtain ⟨⟨Ai2, ni2, ci2, wi2, Ai3, ni3, ci3, wi3, Ai4, ni4, ci4, wi4, Ei1, Ei2, Ei3, Xi⟩, ⟨Aj2, nj2, cj2, wj2, Aj3, nj3, cj3, wj3, Aj4, nj4, cj4, wj4, Ej1, Ej2, Ej3, Xj⟩, ⟨Ak2, nk2, ck2, wk2, Ak3, nk3, ck3, wk3, Ak4, nk4, ck4, wk4, Ek1, Ek2, Ek3, Xk⟩⟩ := chains wr (x := (s.data.toList, f)) (cs := #[.string s, .slice f.a f.m.b.length f.c, .int .i64 (f.m.safe : Nat), .bool f.m.ever]) (by simp [rcell]) (A := some ad) (c := c) (A' := some (ad.add (m * 4))) (m' := es.length - m) (c' := c - m) hm hlen (fun w' hw => HR7.firsts hw rfl hm) rfl (fun w' hw => by have := HR7.lasts hw hm hc; rw [if_neg (by omega)] at this; exact this)
        have ki2 := (Xi.b2.cell (p := ⟨q, 1, none⟩) hq7).trans c1
        have ki3 := (Xi.b3.cell (p := ⟨q, 1, none⟩) hq7).trans c1
        have ki4 := (Xi.b4.cell (p := ⟨q, 1, none⟩) hq7).trans c1
        have fi4 := (Xi.b4.frozen (p := ⟨q, 1, none⟩) hq7).trans f1
        have kj2 := (Xj.b2.cell (p := ⟨q, 1, none⟩) hq7).trans c1
        have kj3 := (Xj.b3.cell (p := ⟨q, 1, none⟩) hq7).trans c1
        have kj4 := (Xj.b4.cell (p := ⟨q, 1, none⟩) hq7).trans c1
        have fj4 := (Xj.b4.frozen (p := ⟨q, 1, none⟩) hq7).trans f1
        have kk2 := (Xk.b2.cell (p := ⟨q, 1, none⟩) hq7).trans c1
        have kk3 := (Xk.b3.cell (p := ⟨q, 1, none⟩) hq7).trans c1
        have kk4 := (Xk.b4.cell (p := ⟨q, 1, none⟩) hq7).trans c1
        have fk4 := (Xk.b4.frozen (p := ⟨q, 1, none⟩) hq7).trans f1
        have bk0 := (Xk.b2.cell (p := ⟨w.heap.size, 0, none⟩) hb7).trans b0
        have bk1 := (Xk.b2.cell (p := ⟨w.heap.size, 1, none⟩) hb7).trans b1
        have bk2 := (Xk.b2.cell (p := ⟨w.heap.size, 2, none⟩) hb7).trans b2
        have bk3 := (Xk.b2.cell (p := ⟨w.heap.size, 3, none⟩) hb7).trans b3
        have hqk : q < wk2.heap.size := Nat.lt_of_lt_of_le hq7 Xk.b2.size
        have hbk : w.heap.size < wk2.heap.size := Nat.lt_of_lt_of_le hb7 Xk.b2.size
        have hB7 := Nat.le_trans HB0.out hb.out.size
        have hf7 := HF.out.below hb.out
        have FIN : Hid (∀ (w4 : World) A4 n4 c4, FRow w4 wr.heap.size (.slice A4 n4 c4) (es.take m ++ (s.data.toList, f) :: es.drop m) → Below wr.heap.size wr w4 → (∃ v', RefAt (w4.setCell ⟨q, 1, none⟩ (.slice A4 n4 c4)) B q v' (fput s.data.toList f es) cap fuse lost) ∧ TBut B q w (w4.setCell ⟨q, 1, none⟩ (.slice A4 n4 c4))) := fun w4 A4 n4 c4 hF hB4 => by
          obtain ⟨h1, h2⟩ := put_new H7 hB7 hB4 hF hf7 hall.out hm hx2 HN.out
          exact ⟨h1, (HT.out.trans (.of_below hb.out)).trans h2⟩
        have XI := Lib.hid Xi
        have XJ := Lib.hid Xj
        have XK := Lib.hid Xk
        clear H7 HR7 K7 hB7 hf7 Xi Xj Xk
        go_wp2
        go_region
        all_goals (try go_wp2)
        go_region
        all_goals (try go_wp2)
        all_goals (try go_end0)
        all_goals first
          | exact ⟨rfl, FIN.out _ _ _ _ XI.out.row XI.out.b4⟩
          | exact ⟨rfl, FIN.out _ _ _ _ XJ.out.row XJ.out.b4⟩
          | exact ⟨rfl, FIN.out _ _ _ _ XK.out.row XK.out.b4⟩
    · obtain rfl : m = es.length := by omega
      have hx2 : ∀ y, es[es.length]? = some y → bytesBefore y.1 s.data.toList = false := fun y hy => by rw [List.getElem?_eq_none (Nat.le_refl _)] at hy; cases hy
      cases A with
      | some ad =>
        by_cases hcm : c = es.length
        · subst hcm
          have H7 := HH.out.below hb.out
          have HR7 := (HR.out.below hb.out).more hb.out.size
          have K7 := HK.out.below hb.out hbx
          have hb7 := K7.lt
          have hq7 := H7.cells.lt
          have f1 := H7.cells.frozen 1
          have b1 : wr.cell? ⟨w.heap.size, 1, none⟩ = some (.slice f.a f.m.b.length f.c) := by rw [K7.cell]; rfl
          have b2 : wr.cell? ⟨w.heap.size, 2, none⟩ = some (.int .i64 (f.m.safe : Nat)) := by rw [K7.cell]; rfl
          have b3 : wr.cell? ⟨w.heap.size, 3, none⟩ = some (.bool f.m.ever) := by rw [K7.cell]; rfl
          obtain ⟨⟨Ai2, ni2, ci2, wi2, Ai3, ni3, ci3, wi3, Ai4, ni4, ci4, wi4, Ei1, Ei2, Ei3, Xi⟩, ⟨Aj2, nj2, cj2, wj2, Aj3, nj3, cj3, wj3, Aj4, nj4, cj4, wj4, Ej1, Ej2, Ej3, Xj⟩, ⟨Ak2, nk2, ck2, wk2, Ak3, nk3, ck3, wk3, Ak4, nk4, ck4, wk4, Ek1, Ek2, Ek3, Xk⟩⟩ := chains wr (x := (s.data.toList, f)) (cs := #[.string s, .slice f.a f.m.b.length f.c, .int .i64 (f.m.safe : Nat), .bool f.m.ever]) (by simp [rcell]) (A := some ad) (c := es.length) (A' := some ad) (m' := 0) (c' := 0) hm hlen (fun w' hw => HR7.firsts hw rfl hm) (Nat.sub_self _).symm (fun w' hw => by have := HR7.lasts hw hm hc; rw [if_pos rfl, Nat.sub_self] at this; exact this)
          have ki2 := (Xi.b2.cell (p := ⟨q, 1, none⟩) hq7).trans c1
          have ki3 := (Xi.b3.cell (p := ⟨q, 1, none⟩) hq7).trans c1
          have ki4 := (Xi.b4.cell (p := ⟨q, 1, none⟩) hq7).trans c1
          have fi4 := (Xi.b4.frozen (p := ⟨q, 1, none⟩) hq7).trans f1
          have kj2 := (Xj.b2.cell (p := ⟨q, 1, none⟩) hq7).trans c1
          have kj3 := (Xj.b3.cell (p := ⟨q, 1, none⟩) hq7).trans c1
          have kj4 := (Xj.b4.cell (p := ⟨q, 1, none⟩) hq7).trans c1
          have fj4 := (Xj.b4.frozen (p := ⟨q, 1, none⟩) hq7).trans f1
          have kk2 := (Xk.b2.cell (p := ⟨q, 1, none⟩) hq7).trans c1
          have kk3 := (Xk.b3.cell (p := ⟨q, 1, none⟩) hq7).trans c1
          have kk4 := (Xk.b4.cell (p := ⟨q, 1, none⟩) hq7).trans c1
          have fk4 := (Xk.b4.frozen (p := ⟨q, 1, none⟩) hq7).trans f1
          have bk0 := (Xk.b2.cell (p := ⟨w.heap.size, 0, none⟩) hb7).trans b0
          have bk1 := (Xk.b2.cell (p := ⟨w.heap.size, 1, none⟩) hb7).trans b1
          have bk2 := (Xk.b2.cell (p := ⟨w.heap.size, 2, none⟩) hb7).trans b2
          have bk3 := (Xk.b2.cell (p := ⟨w.heap.size, 3, none⟩) hb7).trans b3
          have hqk : q < wk2.heap.size := Nat.lt_of_lt_of_le hq7 Xk.b2.size
          have hbk : w.heap.size < wk2.heap.size := Nat.lt_of_lt_of_le hb7 Xk.b2.size
          have hB7 := Nat.le_trans HB0.out hb.out.size
          have hf7 := HF.out.below hb.out
          have FIN : Hid (∀ (w4 : World) A4 n4 c4, FRow w4 wr.heap.size (.slice A4 n4 c4) (es.take es.length ++ (s.data.toList, f) :: es.drop es.length) → Below wr.heap.size wr w4 → (∃ v', RefAt (w4.setCell ⟨q, 1, none⟩ (.slice A4 n4 c4)) B q v' (fput s.data.toList f es) cap fuse lost) ∧ TBut B q w (w4.setCell ⟨q, 1, none⟩ (.slice A4 n4 c4))) := fun w4 A4 n4 c4 hF hB4 => by
            obtain ⟨h1, h2⟩ := put_new H7 hB7 hB4 hF hf7 hall.out hm hx2 HN.out
            exact ⟨h1, (HT.out.trans (.of_below hb.out)).trans h2⟩
          have XI := Lib.hid Xi
          have XJ := Lib.hid Xj
          have XK := Lib.hid Xk
          clear H7 HR7 K7 hB7 hf7 Xi Xj Xk
          go_wp2
          go_region
          all_goals (try go_wp2)
          go_region
          all_goals (try go_wp2)
          all_goals (try go_end0)
          all_goals first
            | exact ⟨rfl, FIN.out _ _ _ _ XI.out.row XI.out.b4⟩
            | exact ⟨rfl, FIN.out _ _ _ _ XJ.out.row XJ.out.b4⟩
            | exact ⟨rfl, FIN.out _ _ _ _ XK.out.row XK.out.b4⟩
        · have H7 := HH.out.below hb.out
          have HR7 := (HR.out.below hb.out).more hb.out.size
          have K7 := HK.out.below hb.out hbx
          have hb7 := K7.lt
          have hq7 := H7.cells.lt
          have f1 := H7.cells.frozen 1
          have b1 : wr.cell? ⟨w.heap.size, 1, none⟩ = some (.slice f.a f.m.b.length f.c) := by rw [K7.cell]; rfl
          have b2 : wr.cell? ⟨w.heap.size, 2, none⟩ = some (.int .i64 (f.m.safe : Nat)) := by rw [K7.cell]; rfl
          have b3 : wr.cell? ⟨w.heap.size, 3, none⟩ = some (.bool f.m.ever) := by rw [K7.cell]; rfl
          obtain ⟨⟨Ai2, ni2, ci2, wi2, Ai3, ni3, ci3, wi3, Ai4, ni4, ci4, wi4, Ei1, Ei2, Ei3, Xi⟩, ⟨Aj2, nj2, cj2, wj2, Aj3, nj3, cj3, wj3, Aj4, nj4, cj4, wj4, Ej1, Ej2, Ej3, Xj⟩, ⟨Ak2, nk2, ck2, wk2, Ak3, nk3, ck3, wk3, Ak4, nk4, ck4, wk4, Ek1, Ek2, Ek3, Xk⟩⟩ := chains wr (x := (s.data.toList, f)) (cs := #[.string s, .slice f.a f.m.b.length f.c, .int .i64 (f.m.safe : Nat), .bool f.m.ever]) (by simp [rcell]) (A := some ad) (c := c) (A' := some (ad.add (es.length * 4))) (m' := 0) (c' := c - es.length) hm hlen (fun w' hw => HR7.firsts hw rfl hm) (Nat.sub_self _).symm (fun w' hw => by have := HR7.lasts hw hm hc; rw [if_neg (by omega), Nat.sub_self] at this; exact this)
          have ki2 := (Xi.b2.cell (p := ⟨q, 1, none⟩) hq7).trans c1
          have ki3 := (Xi.b3.cell (p := ⟨q, 1, none⟩) hq7).trans c1
          have ki4 := (Xi.b4.cell (p := ⟨q, 1, none⟩) hq7).trans c1
          have fi4 := (Xi.b4.frozen (p := ⟨q, 1, none⟩) hq7).trans f1
          have kj2 := (Xj.b2.cell (p := ⟨q, 1, none⟩) hq7).trans c1
          have kj3 := (Xj.b3.cell (p := ⟨q, 1, none⟩) hq7).trans c1
          have kj4 := (Xj.b4.cell (p := ⟨q, 1, none⟩) hq7).trans c1
          have fj4 := (Xj.b4.frozen (p := ⟨q, 1, none⟩) hq7).trans f1
          have kk2 := (Xk.b2.cell (p := ⟨q, 1, none⟩) hq7).trans c1
          have kk3 := (Xk.b3.cell (p := ⟨q, 1, none⟩) hq7).trans c1
          have kk4 := (Xk.b4.cell (p := ⟨q, 1, none⟩) hq7).trans c1
          have fk4 := (Xk.b4.frozen (p := ⟨q, 1, none⟩) hq7).trans f1
          have bk0 := (Xk.b2.cell (p := ⟨w.heap.size, 0, none⟩) hb7).trans b0
          have bk1 := (Xk.b2.cell (p := ⟨w.heap.size, 1, none⟩) hb7).trans b1
          have bk2 := (Xk.b2.cell (p := ⟨w.heap.size, 2, none⟩) hb7).trans b2
          have bk3 := (Xk.b2.cell (p := ⟨w.heap.size, 3, none⟩) hb7).trans b3
          have hqk : q < wk2.heap.size := Nat.lt_of_lt_of_le hq7 Xk.b2.size
          have hbk : w.heap.size < wk2.heap.size := Nat.lt_of_lt_of_le hb7 Xk.b2.size
          have hB7 := Nat.le_trans HB0.out hb.out.size
          have hf7 := HF.out.below hb.out
          have FIN : Hid (∀ (w4 : World) A4 n4 c4, FRow w4 wr.heap.size (.slice A4 n4 c4) (es.take es.length ++ (s.data.toList, f) :: es.drop es.length) → Below wr.heap.size wr w4 → (∃ v', RefAt (w4.setCell ⟨q, 1, none⟩ (.slice A4 n4 c4)) B q v' (fput s.data.toList f es) cap fuse lost) ∧ TBut B q w (w4.setCell ⟨q, 1, none⟩ (.slice A4 n4 c4))) := fun w4 A4 n4 c4 hF hB4 => by
            obtain ⟨h1, h2⟩ := put_new H7 hB7 hB4 hF hf7 hall.out hm hx2 HN.out
            exact ⟨h1, (HT.out.trans (.of_below hb.out)).trans h2⟩
          have XI := Lib.hid Xi
          have XJ := Lib.hid Xj
          have XK := Lib.hid Xk
          clear H7 HR7 K7 hB7 hf7 Xi Xj Xk
          go_wp2
          go_region
          all_goals (try go_wp2)
          go_region
          all_goals (try go_wp2)
          all_goals (try go_end0)
          all_goals first
            | exact ⟨rfl, FIN.out _ _ _ _ XI.out.row XI.out.b4⟩
            | exact ⟨rfl, FIN.out _ _ _ _ XJ.out.row XJ.out.b4⟩
            | exact ⟨rfl, FIN.out _ _ _ _ XK.out.row XK.out.b4⟩
      | none =>
        have he : es.length = 0 := by
          rcases Nat.eq_zero_or_pos es.length with h | h
          · exact h
          · obtain ⟨_, h', _⟩ := HR.out.2 h; cases h'
        have hee : es = [] := List.length_eq_zero_iff.1 he
        subst hee
        have H7 := HH.out.below hb.out
        have HR7 := (HR.out.below hb.out).more hb.out.size
        have K7 := HK.out.below hb.out hbx
        have hb7 := K7.lt
        have hq7 := H7.cells.lt
        have f1 := H7.cells.frozen 1
        have b1 : wr.cell? ⟨w.heap.size, 1, none⟩ = some (.slice f.a f.m.b.length f.c) := by rw [K7.cell]; rfl
        have b2 : wr.cell? ⟨w.heap.size, 2, none⟩ = some (.int .i64 (f.m.safe : Nat)) := by rw [K7.cell]; rfl
        have b3 : wr.cell? ⟨w.heap.size, 3, none⟩ = some (.bool f.m.ever) := by rw [K7.cell]; rfl
        obtain ⟨⟨Ai2, ni2, ci2, wi2, Ai3, ni3, ci3, wi3, Ai4, ni4, ci4, wi4, Ei1, Ei2, Ei3, Xi⟩, ⟨Aj2, nj2, cj2, wj2, Aj3, nj3, cj3, wj3, Aj4, nj4, cj4, wj4, Ej1, Ej2, Ej3, Xj⟩, ⟨Ak2, nk2, ck2, wk2, Ak3, nk3, ck3, wk3, Ak4, nk4, ck4, wk4, Ek1, Ek2, Ek3, Xk⟩⟩ := chains wr (es := []) (x := (s.data.toList, f)) (cs := #[.string s, .slice f.a f.m.b.length f.c, .int .i64 (f.m.safe : Nat), .bool f.m.ever]) (by simp [rcell]) (A := none) (c := c) (A' := none) (m' := 0) (c' := c) (m := 0) hm hlen (fun w' hw => ⟨rfl, fun h => absurd h (by omega)⟩) rfl (fun w' hw => ⟨rfl, fun h => absurd h (by omega)⟩)
        have ki2 := (Xi.b2.cell (p := ⟨q, 1, none⟩) hq7).trans c1
        have ki3 := (Xi.b3.cell (p := ⟨q, 1, none⟩) hq7).trans c1
        have ki4 := (Xi.b4.cell (p := ⟨q, 1, none⟩) hq7).trans c1
        have fi4 := (Xi.b4.frozen (p := ⟨q, 1, none⟩) hq7).trans f1
        have kj2 := (Xj.b2.cell (p := ⟨q, 1, none⟩) hq7).trans c1
        have kj3 := (Xj.b3.cell (p := ⟨q, 1, none⟩) hq7).trans c1
        have kj4 := (Xj.b4.cell (p := ⟨q, 1, none⟩) hq7).trans c1
        have fj4 := (Xj.b4.frozen (p := ⟨q, 1, none⟩) hq7).trans f1
        have kk2 := (Xk.b2.cell (p := ⟨q, 1, none⟩) hq7).trans c1
        have kk3 := (Xk.b3.cell (p := ⟨q, 1, none⟩) hq7).trans c1
        have kk4 := (Xk.b4.cell (p := ⟨q, 1, none⟩) hq7).trans c1
        have fk4 := (Xk.b4.frozen (p := ⟨q, 1, none⟩) hq7).trans f1
        have bk0 := (Xk.b2.cell (p := ⟨w.heap.size, 0, none⟩) hb7).trans b0
        have bk1 := (Xk.b2.cell (p := ⟨w.heap.size, 1, none⟩) hb7).trans b1
        have bk2 := (Xk.b2.cell (p := ⟨w.heap.size, 2, none⟩) hb7).trans b2
        have bk3 := (Xk.b2.cell (p := ⟨w.heap.size, 3, none⟩) hb7).trans b3
        have hqk : q < wk2.heap.size := Nat.lt_of_lt_of_le hq7 Xk.b2.size
        have hbk : w.heap.size < wk2.heap.size := Nat.lt_of_lt_of_le hb7 Xk.b2.size
        have hB7 := Nat.le_trans HB0.out hb.out.size
        have hf7 := HF.out.below hb.out
        have FIN : Hid (∀ (w4 : World) A4 n4 c4, FRow w4 wr.heap.size (.slice A4 n4 c4) (([] : List (Key × FV)).take 0 ++ (s.data.toList, f) :: ([] : List (Key × FV)).drop 0) → Below wr.heap.size wr w4 → (∃ v', RefAt (w4.setCell ⟨q, 1, none⟩ (.slice A4 n4 c4)) B q v' (fput s.data.toList f []) cap fuse lost) ∧ TBut B q w (w4.setCell ⟨q, 1, none⟩ (.slice A4 n4 c4))) := fun w4 A4 n4 c4 hF hB4 => by
          obtain ⟨h1, h2⟩ := put_new H7 hB7 hB4 hF hf7 hall.out hm hx2 HN.out
          exact ⟨h1, (HT.out.trans (.of_below hb.out)).trans h2⟩
        have XI := Lib.hid Xi
        have XJ := Lib.hid Xj
        have XK := Lib.hid Xk
        clear H7 HR7 K7 hB7 hf7 Xi Xj Xk
        go_wp2
        go_region
        all_goals (try go_wp2)
        go_region
        all_goals (try go_wp2)
        all_goals (try go_end0)
        all_goals first
          | exact ⟨rfl, FIN.out _ _ _ _ XI.out.row XI.out.b4⟩
          | exact ⟨rfl, FIN.out _ _ _ _ XJ.out.row XJ.out.b4⟩
          | exact ⟨rfl, FIN.out _ _ _ _ XK.out.row XK.out.b4⟩
end
end Go.Proofs.Ytplbclbeccoegaa
