/-
  A region that draws its order, whose last operations wait, each, for all that stand ahead: these come in the text's order.
-/
import Derived.Test.YtbbhblnhbgkcaaaDoorHoare
namespace Go.Proofs.YtbbhblnhbgkcaaaDoor
open Go Go.RowKit
/-- an operation waits for j, or for one of the tail behind j, or for one that waits for j -/
def waitsB (L : List Oper) (m : Nat) (o : Oper) (i j : Nat) : Bool := onB o j || ((List.range i).any fun k => Nat.ble m k && Nat.blt j k && onB o k) || o.after.any fun e => Region.binds .any e && blk L j L.length e.on
/-- from place k on each operation waits for all ahead -/
def seqFrom (L : List Oper) (m : Nat) : Nat → List Oper → Bool
  | _, [] => true
  | k, o :: r => (List.range k).all (fun j => waitsB L m o k j) && seqFrom L m (k + 1) r
theorem seqFrom_at {L : List Oper} {m : Nat} : ∀ {r : List Oper} {k : Nat}, seqFrom L m k r = true → ∀ i o, r[i]? = some o → ∀ j, j < k + i → onB o j = true ∨ (∃ k', m ≤ k' ∧ j < k' ∧ onB o k' = true) ∨ ∃ e ∈ o.after, Region.binds .any e = true ∧ blk L j L.length e.on = true := by
  intro r
  induction r with
  | nil => intro k _ i o ho; simp at ho
  | cons x r ih =>
    intro k h i o ho j hj
    unfold seqFrom at h
    rw [Bool.and_eq_true] at h
    cases i with
    | zero =>
      have e : x = o := by simpa using ho
      subst e
      have h2 := List.all_eq_true.1 h.1 j (List.mem_range.2 hj)
      unfold waitsB at h2
      rw [Bool.or_eq_true, Bool.or_eq_true] at h2
      rcases h2 with (h2 | h2) | h2
      · exact .inl h2
      · obtain ⟨k', _, hk⟩ := List.any_eq_true.1 h2
        simp only [Bool.and_eq_true] at hk
        exact .inr (.inl ⟨k', Nat.le_of_ble_eq_true hk.1.1, by simpa [Nat.blt_eq] using hk.1.2, hk.2⟩)
      · obtain ⟨e, he, hb⟩ := Array.any_eq_true'.1 h2
        simp only [Bool.and_eq_true] at hb
        exact .inr (.inr ⟨e, he, hb.1, hb.2⟩)
    | succ i => exact ih h.2 i o (by simpa using ho) j (by omega)
/-- each operation waits for those ahead alone -/
def backFrom : Nat → List Oper → Bool
  | _, [] => true
  | k, o :: r => (o.after.all fun e => !Region.binds .any e || decide (e.on < k)) && backFrom (k + 1) r
theorem backFrom_at : ∀ {r : List Oper} {k : Nat}, backFrom k r = true → ∀ i o, r[i]? = some o → ∀ e ∈ o.after, Region.binds .any e = true → e.on < k + i := by
  intro r
  induction r with
  | nil => intro k _ i o ho; simp at ho
  | cons x r ih =>
    intro k h i o ho e he hb
    unfold backFrom at h
    rw [Bool.and_eq_true] at h
    cases i with
    | zero =>
      have e2 : x = o := by simpa using ho
      subst e2
      have := Array.all_eq_true'.1 h.1 e he
      rw [hb] at this
      simpa using this
    | succ i =>
      have := ih h.2 i o (by simpa using ho) e he hb
      omega
section
variable {P : Program} {Q : Exit → Act → World → Prop} {l1 l2 : List Oper}
theorem wpOp_get {ops : Array Oper} {K : Act → World → Prop} {i : Nat} {o : Oper} {a : Act} {w : World} (h : ops[i]? = some o) : wpOp P ops Q i K a w = (if Region.wanted o (yielded ops a.tmps) then o.wp P a w K Q ∨ (o.asks P a w ∧ LetsOut Q) else K (a.put o.dst undef) w) := by
  unfold wpOp; rw [h]
/-- the tail -/
theorem wpAny_tail (hseq : seqFrom (l1 ++ l2) l1.length l1.length l2 = true) (hback : backFrom l1.length l2 = true) (hback1 : backFrom 0 l1 = true) : ∀ (r : List Oper) (k : Nat) (fuel : Nat) (listed : Array Bool) (a : Act) (w : World), l2.drop k = r → k ≤ l2.length → r.length ≤ fuel → listed.size = (l1 ++ l2).length →
    (∀ i, i < l1.length + k → listed.getD i false = true) → (∀ i, l1.length + k ≤ i → listed.getD i false = false) → wpList P (l1 ++ l2).toArray Q r a w → wpAny P .any (l1 ++ l2).toArray Q fuel listed a w := by
  intro r
  induction r with
  | nil =>
    intro k fuel listed a w hr hk hf hs h1 h2 hwp
    have hkl : l2.length ≤ k := List.drop_eq_nil_iff.1 hr
    have hready : Region.ready .any (l1 ++ l2).toArray listed = [] := by
      rw [List.eq_nil_iff_forall_not_mem]
      intro i hi
      obtain ⟨hun, o, ho, _⟩ := mem_ready.1 hi
      rw [List.getElem?_toArray] at ho
      have hlt := (List.getElem?_eq_some_iff.1 ho).1
      rw [List.length_append] at hlt
      have := h1 i (by omega)
      rw [getD_two hun] at this
      cases this
    cases fuel with
    | zero => exact ⟨hready, hwp⟩
    | succ f => exact ⟨fun _ => hwp, fun i hi => by rw [hready] at hi; cases hi⟩
  | cons o r ih =>
    intro k fuel listed a w hr hk hf hs h1 h2 hwp
    cases fuel with
    | zero => simp at hf
    | succ f =>
      have hkl : k < l2.length := by
        rcases Nat.lt_or_ge k l2.length with h | h
        · exact h
        · rw [List.drop_eq_nil_of_le h] at hr; cases hr
      have ho2 : l2[k]? = some o := by
        have := congrArg List.head? hr
        rwa [List.head?_drop] at this
      have hr2 : l2.drop (k + 1) = r := by
        rw [← List.tail_drop, hr]; rfl
      have hget : (l1 ++ l2).toArray[l1.length + k]? = some o := by
        rw [List.getElem?_toArray, List.getElem?_append_right (by omega), Nat.add_sub_cancel_left, ho2]
      have hmem : l1.length + k ∈ Region.ready .any (l1 ++ l2).toArray listed := by
        refine mem_ready.2 ⟨getD_inn (by rw [hs, List.length_append]; omega) (h2 _ (Nat.le_refl _)), o, hget, fun e he hb => h1 _ ?_⟩
        exact backFrom_at hback k o ho2 e he hb
      refine ⟨fun hn => ?_, fun i hi => ?_⟩
      · rw [hn] at hmem; cases hmem
      · obtain ⟨hun, oi, hoi, hall⟩ := mem_ready.1 hi
        have hgi : l1.length + k ≤ i := by
          rcases Nat.lt_or_ge i (l1.length + k) with h | h
          · have := h1 i h
            rw [getD_two hun] at this
            cases this
          · exact h
        have hik : i = l1.length + k := by
          rcases Nat.eq_or_lt_of_le hgi with h | h
          · exact h.symm
          · exfalso
            rw [List.getElem?_toArray, List.getElem?_append_right (by omega)] at hoi
            rcases seqFrom_at hseq (i - l1.length) oi hoi (l1.length + k) (by omega) with hon | ⟨k', _, hk', hon⟩ | ⟨e, he, hb, hbl⟩
            · obtain ⟨e, he, hb, heq⟩ := onB_spec hon
              have := hall e he hb
              rw [heq, h2 _ (Nat.le_refl _)] at this
              cases this
            · obtain ⟨e, he, hb, heq⟩ := onB_spec hon
              have := hall e he hb
              rw [heq, h2 _ (by omega)] at this
              cases this
            · have hcl : ∀ j oj, (l1 ++ l2)[j]? = some oj → listed.getD j false = true → ∀ e ∈ oj.after, Region.binds .any e = true → listed.getD e.on false = true := fun j oj hj hlj e he hb => by
                have hjk : j < l1.length + k := by
                  rcases Nat.lt_or_ge j (l1.length + k) with h | h
                  · exact h
                  · rw [h2 j h] at hlj; cases hlj
                refine h1 _ ?_
                rcases Nat.lt_or_ge j l1.length with h | h
                · rw [List.getElem?_append_left h] at hj
                  have := backFrom_at hback1 j oj hj e he hb
                  omega
                · rw [List.getElem?_append_right h] at hj
                  have := backFrom_at hback (j - l1.length) oj hj e he hb
                  omega
              have := blk_listed hcl (l1.length + k) _ e.on hbl (hall e he hb)
              rw [h2 _ (Nat.le_refl _)] at this
              cases this
        subst hik
        rw [hget] at hoi
        injection hoi with hoi
        subst hoi
        rw [wpOp_get hget]
        have hset : ∀ i, i < l1.length + (k + 1) → (listed.setIfInBounds (l1.length + k) true).getD i false = true := fun i hi => by
          by_cases e : l1.length + k = i
          · subst e
            have : l1.length + k < listed.size := by rw [hs, List.length_append]; omega
            simp [this]
          · rw [getD_set_ne false e]; exact h1 i (by omega)
        have hset2 : ∀ i, l1.length + (k + 1) ≤ i → (listed.setIfInBounds (l1.length + k) true).getD i false = false := fun i hi => by
          rw [getD_set_ne false (by omega)]; exact h2 i (by omega)
        unfold wpList at hwp
        have next : ∀ a w, wpList P (l1 ++ l2).toArray Q r a w → wpAny P .any (l1 ++ l2).toArray Q f (listed.setIfInBounds (l1.length + k) true) a w := fun a w h =>
          ih (k + 1) f _ a w hr2 (by omega) (by simp at hf; omega) (by simpa using hs) hset hset2 h
        by_cases hw : Region.wanted o (yielded (l1 ++ l2).toArray a.tmps) = true
        · rw [if_pos hw] at hwp ⊢
          exact hwp.imp (Oper.wp_mono next) id
        · rw [if_neg hw] at hwp ⊢
          exact next _ _ hwp
theorem then_wp {next : Act → World → Prop} {o : Oper} {a : Act} {w : World} {K : Act → World → Prop} (h : o.wp P a w K (Exit.then next Q)) : o.wp P a w K Q := by
  unfold Oper.wp at *
  generalize (execOp a.eval o).run P w = r at *
  cases r with
  | ok n w' => cases n <;> exact h
  | halt x w' => cases x <;> exact h
theorem then_lets {next : Act → World → Prop} (h : LetsOut (Exit.then next Q)) : LetsOut Q := h
/-- the part ahead -/
theorem wpAny_split (hseq : seqFrom (l1 ++ l2) l1.length l1.length l2 = true) (hback : backFrom l1.length l2 = true) (hback1 : backFrom 0 l1 = true) (hg : (l1.all fun o => match o.guard with | some (g, _) => decide (g < l1.length) | none => true) = true) :
    ∀ (fuel1 fuel : Nat) (listed1 listed : Array Bool) (a : Act) (w : World), fuel1 + l2.length ≤ fuel → listed1.size = l1.length → listed.size = (l1 ++ l2).length → (∀ i, i < l1.length → listed.getD i false = listed1.getD i false) → (∀ i, l1.length ≤ i → listed.getD i false = false) → (∀ j oj, l1[j]? = some oj → listed1.getD j false = true → ∀ e ∈ oj.after, Region.binds .any e = true → listed1.getD e.on false = true) →
      wpAny P .any l1.toArray (Exit.then (wpList P (l1 ++ l2).toArray Q l2) Q) fuel1 listed1 a w → wpAny P .any (l1 ++ l2).toArray Q fuel listed a w := by
  have allOf : ∀ (listed1 : Array Bool), listed1.size = l1.length → Region.ready .any l1.toArray listed1 = [] → ∀ j, j < l1.length → listed1.getD j false = true := by
    intro listed1 hs hr j
    induction j using Nat.strongRecOn with
    | _ j jh =>
      intro hj
      cases hl : listed1.getD j false with
      | true => rfl
      | false =>
        exfalso
        have hnr : j ∉ Region.ready .any l1.toArray listed1 := by rw [hr]; simp
        refine hnr (mem_ready.2 ⟨getD_inn (by rw [hs]; exact hj) hl, l1[j], by rw [List.getElem?_toArray, List.getElem?_eq_getElem hj], fun e he hb => ?_⟩)
        have hlt := backFrom_at hback1 j l1[j] (List.getElem?_eq_getElem hj) e he hb
        exact jh e.on (by omega) (by omega)
  have fin : ∀ (fuel : Nat) (listed1 listed : Array Bool) (a : Act) (w : World), l2.length ≤ fuel → listed1.size = l1.length → listed.size = (l1 ++ l2).length → (∀ i, i < l1.length → listed.getD i false = listed1.getD i false) → (∀ i, l1.length ≤ i → listed.getD i false = false) →
      Region.ready .any l1.toArray listed1 = [] → wpList P (l1 ++ l2).toArray Q l2 a w → wpAny P .any (l1 ++ l2).toArray Q fuel listed a w := fun fuel listed1 listed a w hf h1 h2 h3 h4 hr hwp =>
    wpAny_tail hseq hback hback1 l2 0 fuel listed a w rfl (Nat.zero_le _) hf h2 (fun i hi => by rw [h3 i hi]; exact allOf listed1 h1 hr i hi) h4 hwp
  intro fuel1
  induction fuel1 with
  | zero =>
    intro fuel listed1 listed a w hf h1 h2 h3 h4 _ hwp
    exact fin fuel listed1 listed a w (by omega) h1 h2 h3 h4 hwp.1 hwp.2
  | succ fuel1 ih =>
    intro fuel listed1 listed a w hf h1 h2 h3 h4 hcl hwp
    by_cases hr : Region.ready .any l1.toArray listed1 = []
    · exact fin fuel listed1 listed a w (by omega) h1 h2 h3 h4 hr (hwp.1 hr)
    · obtain ⟨fuel, rfl⟩ : ∃ f, fuel = f + 1 := ⟨fuel - 1, by omega⟩
      have hto : ∀ i, i ∈ Region.ready .any l1.toArray listed1 → i ∈ Region.ready .any (l1 ++ l2).toArray listed := fun i hi => by
        obtain ⟨hun, o, ho, hall⟩ := mem_ready.1 hi
        rw [List.getElem?_toArray] at ho
        have hlt := (List.getElem?_eq_some_iff.1 ho).1
        refine mem_ready.2 ⟨getD_inn (by rw [h2, List.length_append]; omega) (by rw [h3 i hlt]; exact getD_two hun), o, by rw [List.getElem?_toArray, List.getElem?_append_left hlt]; exact ho, fun e he hb => ?_⟩
        have hlt2 := backFrom_at hback1 i o ho e he hb
        rw [h3 _ (by omega)]
        exact hall e he hb
      refine ⟨fun hn => ?_, fun i hi => ?_⟩
      · obtain ⟨i, hi⟩ := List.exists_mem_of_ne_nil _ hr
        have := hto i hi
        rw [hn] at this
        cases this
      · obtain ⟨hun, o, ho, hall⟩ := mem_ready.1 hi
        have hget := ho
        rw [List.getElem?_toArray] at ho
        have hlt : i < l1.length := by
          rcases Nat.lt_or_ge i l1.length with h | h
          · exact h
          · exfalso
            rw [List.getElem?_append_right h] at ho
            obtain ⟨j, hj⟩ := List.exists_mem_of_ne_nil _ hr
            obtain ⟨hun2, oj, hoj, _⟩ := mem_ready.1 hj
            rw [List.getElem?_toArray] at hoj
            have hjl := (List.getElem?_eq_some_iff.1 hoj).1
            rcases seqFrom_at hseq (i - l1.length) o ho j (by omega) with hon | ⟨k', hk', _, hon⟩ | ⟨e, he, hb, hbl⟩
            · obtain ⟨e, he, hb, heq⟩ := onB_spec hon
              have := hall e he hb
              rw [heq, h3 j hjl, getD_two hun2] at this
              cases this
            · obtain ⟨e, he, hb, heq⟩ := onB_spec hon
              have := hall e he hb
              rw [heq, h4 _ hk'] at this
              cases this
            · have hcl2 : ∀ j oj, (l1 ++ l2)[j]? = some oj → listed.getD j false = true → ∀ e ∈ oj.after, Region.binds .any e = true → listed.getD e.on false = true := fun j oj hj hlj e he hb => by
                rcases Nat.lt_or_ge j l1.length with h | h
                · rw [List.getElem?_append_left h] at hj
                  have hlt := backFrom_at hback1 j oj hj e he hb
                  rw [h3 _ (by omega)]
                  exact hcl j oj hj (by rw [← h3 j h]; exact hlj) e he hb
                · rw [h4 j h] at hlj; cases hlj
              have := blk_listed hcl2 j _ e.on hbl (hall e he hb)
              rw [h3 j hjl, getD_two hun2] at this
              cases this
        rw [List.getElem?_append_left hlt] at ho
        have hi1 : i ∈ Region.ready .any l1.toArray listed1 := by
          refine mem_ready.2 ⟨getD_inn (by rw [h1]; exact hlt) (by rw [← h3 i hlt]; exact getD_two hun), o, by rw [List.getElem?_toArray]; exact ho, fun e he hb => ?_⟩
          have hlt2 := backFrom_at hback1 i o ho e he hb
          rw [← h3 _ (by omega)]
          exact hall e he hb
        have hst := hwp.2 i hi1
        have hget1 : l1.toArray[i]? = some o := by rw [List.getElem?_toArray]; exact ho
        rw [wpOp_get hget1] at hst
        rw [wpOp_get hget]
        have next : ∀ a w, wpAny P .any l1.toArray (Exit.then (wpList P (l1 ++ l2).toArray Q l2) Q) fuel1 (listed1.setIfInBounds i true) a w → wpAny P .any (l1 ++ l2).toArray Q fuel (listed.setIfInBounds i true) a w := fun a w h => by
          refine ih fuel _ _ a w (by omega) (by simpa using h1) (by simpa using h2) (fun j hj => ?_) (fun j hj => ?_) ?_ h
          · by_cases e : i = j
            · subst e
              have q1 : i < listed.size := by rw [h2, List.length_append]; omega
              have q2 : i < listed1.size := by omega
              simp [q1, q2]
            · rw [getD_set_ne false e, getD_set_ne false e]; exact h3 j hj
          · rw [getD_set_ne false (by omega)]; exact h4 j hj
          · intro j oj hj hlj e he hb
            by_cases hij : i = j
            · subst hij
              have : oj = o := Option.some.inj (hj.symm.trans ho)
              subst this
              have hlt2 := backFrom_at hback1 i oj ho e he hb
              have h5 := hall e he hb
              rw [h3 _ (by omega)] at h5
              exact getD_set_true h5
            · rw [getD_set_ne false hij] at hlj
              exact getD_set_true (hcl j oj hj hlj e he hb)
        have hwt : Region.wanted o (yielded (l1 ++ l2).toArray a.tmps) = Region.wanted o (yielded l1.toArray a.tmps) := by
          rw [wanted_eq, wanted_eq]
          unfold wantedBy
          have hgo := List.all_eq_true.1 hg o (List.mem_of_getElem? ho)
          cases hgd : o.guard with
          | none => rfl
          | some gb =>
            obtain ⟨g, b⟩ := gb
            rw [hgd] at hgo
            simp only [decide_eq_true_eq] at hgo
            simp only [List.getElem?_append_left hgo]
        rw [hwt]
        by_cases hw : Region.wanted o (yielded l1.toArray a.tmps) = true
        · rw [if_pos hw] at hst ⊢
          exact hst.imp (fun h => Oper.wp_mono next (then_wp h)) fun h => ⟨h.1, then_lets h.2⟩
        · rw [if_neg hw] at hst ⊢
          exact next _ _ hst
theorem wp_region_split {id : Nat} {d : Bool} {l : List Oper} {a : Act} {w : World} (m : Nat) (h : (Code.region id (l.take m ++ l.drop m).toArray d).wp P Q a w) : (Code.region id l.toArray d).wp P Q a w := by
  rwa [List.take_append_drop] at h
theorem wp_any_split_at {id : Nat} {d : Bool} {a : Act} {w : World} {n : Nat} {Γ : Env} (hA : At n Γ a) (F : List Fact) (Ph : List Phase) (C : World → Prop) (T : Nat → World → World → Prop) (hm : P.follows .mixedOrders = true) (hdr : d = true) (hB : checkB l1 n = true) (hdB : dstsB l1 n = true) (hFl : F.length = l1.length)
    (hseq : seqFrom (l1 ++ l2) l1.length l1.length l2 = true) (hback : backFrom l1.length l2 = true) (hback1 : backFrom 0 l1 = true) (hg : (l1.all fun o => match o.guard with | some (g, _) => decide (g < l1.length) | none => true) = true) (hC : C { w with drawn := w.drawn + 1 })
    (hstab : ∀ i j x w w', needB l1 F i j = true → i ≠ j → C w → (F.getD j (.det undef)).says x w → T i w w' → (F.getD j (.det undef)).says x w')
    (hph0 : ∀ ph ∈ Ph, ph.start = none → ph.p (sig a.eval) { w with drawn := w.drawn + 1 })
    (hph : ∀ i (ph : Phase) σ w w', ph ∈ Ph → ph.start ≠ some i → ph.upto ≠ some i → liveB l1 i ph.start ph.upto = true → C w → ph.p σ w → T i w w' → ph.p σ w')
    (hpl : ∀ ph ∈ Ph, ∀ a, ph.start = some a → a < l1.length)
    (hob : ObAll P l1 F Ph C T a.tmps 0 l1)
    (hlk : lkB l1 (Ph.map fun ph => (ph.start, ph.looks)) = true)
    (hfin : ∀ σ w', C w' → (∀ ph ∈ Ph, ph.upto = none → ph.p σ w') → FinE σ (fun Γ => ∀ a', At n Γ a' → wpList P (l1 ++ l2).toArray Q l2 a' w') w' (l1.zip F) Γ) : (Code.region id (l1 ++ l2).toArray d).wp P Q a w := by
  subst hdr
  have h1 := wpAny_facts (P := P) (l := l1) (Q := Exit.then (wpList P (l1 ++ l2).toArray Q l2) Q) (a := a) (w := w) n F Ph C T hA.size hB hFl hC hstab hph0 hph hpl (ob_all hob) hlk fun σ w' hC' hp' => by
    refine fin_env (Q := Exit.then (wpList P (l1 ++ l2).toArray Q l2) Q) hA.defers _ _ Γ (fun p hp t ht => ?_) hA (hfin σ w' hC' hp')
    have hpl := (List.of_mem_zip (a := p.1) (b := p.2) hp).1
    unfold dstsB at hdB
    have := List.all_eq_true.1 hdB p.1 hpl
    rw [ht] at this
    simpa using this
  refine wp_region_any hm (wpAny_split hseq hback hback1 hg _ _ _ _ a _ ?_ ?_ ?_ (fun i hi => ?_) (fun i hi => ?_) (fun j oj _ hl => ?_) h1)
  · simp
  · simp
  · simp
  · rw [Array.getD_eq_getD_getElem?, Array.getD_eq_getD_getElem?, Array.getElem?_replicate, Array.getElem?_replicate]
    split <;> split <;> rfl
  · rw [Array.getD_eq_getD_getElem?, Array.getElem?_replicate]
    split <;> rfl
  · exfalso
    rw [Array.getD_eq_getD_getElem?, Array.getElem?_replicate] at hl
    split at hl <;> cases hl
end
end Go.Proofs.YtbbhblnhbgkcaaaDoor
