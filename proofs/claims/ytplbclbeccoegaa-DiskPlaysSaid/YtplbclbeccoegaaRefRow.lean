/-
  append of files onto a row of files: no byte comes into the row.
-/
import Derived.Test.YtplbclbeccoegaaRefWalk2
import Derived.Deep.RegionLaw
namespace Go.Proofs.Ytplbclbeccoegaa
open Go.RowKit Go.Maps
theorem file_info : (Try.prog.info? 61).map (fun i => (i.zero, i.size, i.bytes)) = some (some (.agg #[.string ⟨#[]⟩, .slice none 0 0, .int .i64 0, .bool false]), 4, 56) := by kernel_rfl
theorem FileRow.setCells {g b : Nat} : ∀ (vs : List Value) (o : Nat) {w : World}, FileRow w g → (∀ u ∈ vs, ∀ k, u ≠ .int .u8 k) → FileRow (w.setCells b o vs) g
  | [], _, _, h, _ => h
  | v :: r, o, _, h, hv => FileRow.setCells r (o + 1) (h.set_ b o v (hv v List.mem_cons_self)) (fun u hu => hv u (List.mem_cons_of_mem _ hu))
theorem zero_no8 (n : Nat) (j : Nat) (k : Int) : (Builtin.zeroCells (Value.agg #[.string ⟨#[]⟩, .slice none 0 0, .int .i64 0, .bool false]).cells n)[j]? ≠ some (.int .u8 k) := by
  unfold Builtin.zeroCells
  simp only [Value.cells]
  intro h
  rw [Array.getElem?_map] at h
  cases hq : (Array.range (n * #[Value.string ⟨#[]⟩, .slice none 0 0, .int .i64 0, .bool false].size))[j]? with
  | none => rw [hq] at h; cases h
  | some i =>
    rw [hq] at h
    have h' : (#[Value.string ⟨#[]⟩, .slice none 0 0, .int .i64 0, .bool false] : Array Value)[i % 4]! = .int .u8 k := by
      injection h
    have h4 : i % 4 < 4 := Nat.mod_lt _ (by omega)
    generalize i % 4 = r at *
    rcases r with _ | _ | _ | _ | r
    · cases h'
    · cases h'
    · cases h'
    · cases h'
    · omega
theorem FRow.lt {w : World} {B : Nat} {v : Value} {l : List (Key × FV)} (h : FRow w B v l) : ∀ k, v.ownBlock = some k → B ≤ k ∧ k < w.heap.size := h.own.lt
theorem FRow.mono {w : World} {B B' : Nat} {v : Value} {l : List (Key × FV)} (h : FRow w B v l) (hB : B' ≤ B) : FRow w B' v l := by
  refine ⟨⟨h.own.1, ?_⟩, h.pure⟩
  rcases h.own.2 with h0 | ⟨g, cap, cur, e, hb, hr⟩
  · exact .inl h0
  · exact .inr ⟨g, cap, cur, e, Nat.le_trans hB hb, hr⟩
set_option maxRecDepth 100000 in
theorem run_append_files {w : World} {B : Nat} {v : Value} {l gs : List (Key × FV)} (h : FRow w B v l) {A : Option Addr} {m : Nat} (c : Nat) {Bd : Nat} (hm : m = gs.length) (hr : Reads w Bd 4 A m (rcells gs)) (hlen : l.length + gs.length ≤ 1000000) (hB : B ≤ w.heap.size) (ty : TypeId) :
    ∃ v' w', (Builtin.append_ #[30, 30] ty #[v, .slice A m c]).run Try.prog w = .ok v' w' ∧ FRow w' B v' (l ++ gs) ∧ w.grownBy w' v.ownBlock := by
  subst hm
  obtain ⟨i, hi, hz0, hz1, hz2⟩ := info_parts file_info
  obtain ⟨v', w', hrun, ho, hg⟩ := run_append_any (P := Try.prog) w B 30 ty 61 i _ 4 56 Try.underlying30 hi hz0 hz1 hz2 rfl (by omega) v l.length (rcells l) h.own A gs.length c (rcells gs) (Gives.of_reads hr (rcells_one gs)) (by unfold maxLen; omega) (by omega) hB
  rw [← rcells_append, ← List.length_append] at ho
  refine ⟨v', w', hrun, ⟨ho, ?_⟩, hg⟩
  have hsrc : Src Try.prog i.size 30 (.slice A gs.length c) gs.length (rcells gs) w := by
    rw [hz1]
    cases hA : A with
    | some ad =>
      refine Src.ofSlice w Try.underlying30 ad gs.length c (rcells gs) (rcells_length gs) (fun j u hu => ?_) (rcells_one gs)
      have hlt : j < (rcells gs).length := by
        rcases Nat.lt_or_ge j (rcells gs).length with h | h
        · exact h
        · rw [List.getElem?_eq_none h] at hu; cases hu
      rw [rcells_length] at hlt
      obtain ⟨ad', e, _, hc⟩ := hr.2 (by omega)
      rw [hA] at e
      injection e with e
      subst e
      exact hc j u hu
    | none =>
      have h0 : gs.length = 0 := by
        rcases Nat.eq_zero_or_pos gs.length with h | h
        · exact h
        · obtain ⟨ad', e, _⟩ := hr.2 h; rw [hA] at e; cases e
      have : gs = [] := List.length_eq_zero_iff.1 h0
      subst this
      exact Src.ofNil w Try.underlying30 c
  rcases h.own.2 with ⟨rfl, h0⟩ | ⟨g, cap, cur, rfl, hb, hgg, hnc, hcm, hcs, htake⟩
  · have : l = [] := List.length_eq_zero_iff.1 h0
    subst this
    by_cases hgl : gs.length = 0
    · rcases ho.2 with ⟨rfl, _⟩ | ⟨g, cap, cur, rfl, hb, hgg, hnc, hcm, hcs, htake⟩
      · exact fun g hg => by cases hg
      · exfalso
        have hroom := hsrc.len
        have hgs : gs = [] := List.length_eq_zero_iff.1 hgl
        subst hgs
        have : (Builtin.append_ #[30, 30] ty #[.slice none 0 0, .slice A 0 c]).run Try.prog w = .ok (.slice none 0 0) w := by
          have e1 := hsrc.len
          have e2 := hsrc.cells
          simp only [List.length_nil, rcells, List.flatMap_nil] at e1 e2
          simp [Builtin.append_, run_underlying Try.underlying30, sizeOf, typeInfo, hi, e1, e2, Result.andThen]
        simp only [List.length_nil] at hrun
        rw [this] at hrun
        injection hrun with e1 e2
        cases e1
    · have hgr := run_append_grow_src (P := Try.prog) w 30 30 ty 61 i _ Try.underlying30 hi hz0 none 0 0 [] (by simp [Builtin.firstCells]) _ gs.length (rcells gs) hsrc (by omega) (by simp only [List.length_nil] at hlen; omega) (by
        rw [hz2]
        exact growslice_fits (by omega) (by simp only [List.length_nil] at hlen; omega))
      rw [hgr] at hrun
      injection hrun with e1 e2
      subst e1 e2
      intro g hg
      injection hg with hg
      subst hg
      refine ⟨_, _, heap_alloc_new w.drew _, fun j k hj => ?_⟩
      rw [Array.getElem?_append] at hj
      split at hj
      · rw [List.getElem?_toArray, List.nil_append] at hj
        exact rcells_no8 gs k _ (List.mem_of_getElem? hj) rfl
      · exact zero_no8 _ _ _ hj
  · by_cases hroom : l.length + gs.length ≤ cap
    · have hst := run_append_room_src (P := Try.prog) w 30 30 ty 61 i Try.underlying30 hi g 0 l.length cap _ gs.length (rcells gs) hsrc hroom (fun j hj => by
          rw [rcells_length] at hj
          rw [cell_of_row w g _ cur _ (0, 0) hgg, hz1, Array.getElem?_eq_getElem (by rw [hcs]; omega)]
          rfl) (fun j _ => frozen_of_row w g _ cur _ hgg)
      rw [hst] at hrun
      injection hrun with e1 e2
      subst e1 e2
      intro g' hg'
      exact FileRow.setCells _ _ (h.pure g' hg') (fun u hu k => rcells_no8 gs k u hu)
    · have hold : (Builtin.firstCells i.size l.length (.slice (some ⟨g, 0, none⟩) l.length cap)).run Try.prog w.drew = .ok (rcells l).toArray w.drew := by
        rw [hz1]
        exact run_firstCells_some (P := Try.prog) w.drew 4 l.length ⟨g, 0, none⟩ l.length cap (rcells l) (rcells_length l) (fun j u hu => (h.own.cells (g := g) rfl j u hu))
      have hgr := run_append_grow_src (P := Try.prog) w 30 30 ty 61 i _ Try.underlying30 hi hz0 (some ⟨g, 0, none⟩) l.length cap (rcells l) hold _ gs.length (rcells gs) hsrc (by omega) (by omega) (by
        rw [hz2]
        exact growslice_fits (by omega) (by omega))
      rw [hgr] at hrun
      injection hrun with e1 e2
      subst e1 e2
      intro g' hg'
      injection hg' with hg'
      subst hg'
      refine ⟨_, _, heap_alloc_new w.drew _, fun j k hj => ?_⟩
      rw [Array.getElem?_append] at hj
      split at hj
      · rw [List.getElem?_toArray, ← rcells_append] at hj
        exact rcells_no8 (l ++ gs) k _ (List.mem_of_getElem? hj) rfl
      · exact zero_no8 _ _ _ hj
/-- as a step of a region that draws its order -/
theorem step_append_files {ops : Array Oper} {o : Oper} {a : Act} {w : World} {K : Act → World → Prop} {Q : Exit → Act → World → Prop} {E : Prop} (hg : o.guard = none) (s x : Operand) (hop : o.op = Op.call { callee := Callee.builtin Builtin.append, args := #[s, x], argTypes := #[30, 30] })
    {B : Nat} {v : Value} {l gs : List (Key × FV)} {A : Option Addr} {m c Bd : Nat} (hs : a.eval s = v) (hx : a.eval x = .slice A m c) (h : FRow w B v l) (hm : m = gs.length) (hr : Reads w Bd 4 A m (rcells gs)) (hlen : l.length + gs.length ≤ 1000000) (hB : B ≤ w.heap.size)
    (hK : ∀ v' w', FRow w' B v' (l ++ gs) → w.grownBy w' v.ownBlock → K (a.put o.dst v') w') : if Region.wanted o (yielded ops a.tmps) = true then Oper.wp Try.prog o a w K Q else E := by
  have hw : Region.wanted o (yielded ops a.tmps) = true := by simp [Region.wanted, hg]
  rw [if_pos hw]
  obtain ⟨v', w', hrun, h2, h3⟩ := run_append_files h c hm hr hlen hB o.type
  unfold Oper.wp
  simp [execOp, hop, resolve, invoke, builtin, hs, hx, hrun, Result.andThen]
  exact hK v' w' h2 h3
end Go.Proofs.Ytplbclbeccoegaa
