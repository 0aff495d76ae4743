/-
  Ranging over the disk's map.
-/
import Derived.Test.YtplbclbeccoegaaDiskWalk4
import Derived.Maps.RangeWalk
namespace Go.Proofs.Ytplbclbeccoegaa
open Go.RowKit Go.Maps
set_option maxRecDepth 100000 in
theorem wpList_next_files {w : World} {ops : Array Oper} {rest : List Oper} {o : Oper} {a : Act} {Q : Exit → Act → World → Prop} (hg : o.guard = none) (it : Operand) (hop : o.op = Op.next it false) (mb r n : Nat) (es : List (Key × FV)) (left : Lit → Bool) (cnt : Nat)
    (hit : a.eval it = .pointer (some ⟨r, 0, none⟩)) (h : w.ranges Try.prog 9 heldR mb r n (dmap heldF es) left cnt)
    (hDone : cnt = 0 → (∀ kl, left kl = false) → wpList Try.prog ops Q rest (a.put o.dst (.tuple #[.bool false])) w)
    (hMore : ∀ (x : Key) (v : FV) (w' : World) (cnt' : Nat), x.length ≤ maxLen → left (.string x) = true → fget x es = some v → w'.ranges Try.prog 9 heldR mb r n (dmap heldF es) (fun z => left z && !z.sameKey (.string x)) cnt' → cnt' < cnt →
      w.grownBy w' (some r) → w'.heap.size = w.heap.size → (Instr.entry (.pointer (some ⟨r, 0, none⟩))).run Try.prog w' = .ok (.tuple #[.string ⟨x.toArray⟩, .agg #[.slice v.a v.m.b.length v.c, .int .i64 (v.m.safe : Nat), .bool v.m.ever]]) w' →
      wpList Try.prog ops Q rest (a.put o.dst (.tuple #[.bool true, .string ⟨x.toArray⟩, .agg #[.slice v.a v.m.b.length v.c, .int .i64 (v.m.safe : Nat), .bool v.m.ever]])) w') :
    wpList Try.prog ops Q (o :: rest) a w := by
  refine wpList_next_ranges w hg it hop 9 string_key heldR encStr id (fun key kl hk => ?_) (fun v y _ => ⟨v, rfl⟩) mb r n _ left cnt hit h hDone ?_
  · obtain ⟨x, hx, _⟩ := Maps.keyOf_str Try.underlying9 hk
    exact ⟨x, hx⟩
  · intro x v kl y w' cnt' hkey hlk hv hat hrg hlt hgr hsz hen
    obtain ⟨x', ex, rfl, hxl⟩ := Maps.keyOf_str Try.underlying9 hkey
    obtain rfl : x = x' := encStr_inj ex
    obtain ⟨yd, yp⟩ := y
    have hv' : v = v ∧ yd = .held v := by
      simp only [heldR, id] at hv
      injection hv with hv
      injection hv with h1 h2
      exact ⟨rfl, h1.symm⟩
    have h1 := hat .nil
    rw [dmap_at] at h1
    cases hg : fget x es with
    | none => rw [hg] at h1; rw [hv'.2] at h1; cases h1
    | some fv =>
      rw [hg] at h1
      have e : v = FV.val fv := by rw [hv'.2] at h1; injection h1 with h1; exact h1.symm
      subst e
      exact hMore x fv w' cnt' hxl hlk hg hrg hlt hgr hsz hen
/-- the bytes of those files that have come -/
def usedL (left : Lit → Bool) : List (Key × FV) → Nat
  | [] => 0
  | q :: r => (if left (.string q.1) = true then 0 else q.2.m.b.length) + usedL left r
theorem usedL_start : ∀ {es all : List (Key × FV)}, (∀ q ∈ es, q ∈ all) → usedL (Maps.has (dmap heldF all)) es = 0
  | [], _, _ => rfl
  | q :: r, all, h => by
    have h1 : Maps.has (dmap heldF all) (.string q.1) = true := by
      rw [dmap_has]
      cases hg : fget q.1 all with
      | some v => rfl
      | none =>
        exfalso
        have hq := h q List.mem_cons_self
        clear h
        induction all with
        | nil => cases hq
        | cons z t ih =>
          rw [fget_cons] at hg
          split at hg
          · cases hg
          · rename_i hne
            rcases List.mem_cons.1 hq with e | hq
            · subst e; exact hne rfl
            · exact ih hg hq
    show (if Maps.has (dmap heldF all) (.string q.1) = true then 0 else q.2.m.b.length) + usedL _ r = 0
    rw [if_pos h1, usedL_start (fun z hz => h z (List.mem_cons_of_mem _ hz))]
theorem usedL_end {left : Lit → Bool} (h : ∀ kl, left kl = false) : ∀ es : List (Key × FV), usedL left es = used (fmap FV.m es)
  | [] => rfl
  | q :: r => by
    show (if left (.string q.1) = true then 0 else q.2.m.b.length) + usedL left r = q.2.m.b.length + used (fmap FV.m r)
    rw [h, if_neg (by simp), usedL_end h r]
theorem usedL_le (left : Lit → Bool) : ∀ es : List (Key × FV), usedL left es ≤ used (fmap FV.m es)
  | [] => Nat.le_refl _
  | q :: r => by
    show (if left (.string q.1) = true then 0 else q.2.m.b.length) + usedL left r ≤ q.2.m.b.length + used (fmap FV.m r)
    have := usedL_le left r
    split <;> omega
theorem usedL_out {left : Lit → Bool} {x : Key} : ∀ {es : List (Key × FV)}, (∀ q ∈ es, q.1 ≠ x) → usedL (fun z => left z && !z.sameKey (.string x)) es = usedL left es
  | [], _ => rfl
  | q :: r, h => by
    have h1 : (left (.string q.1) && !(Lit.string q.1).sameKey (.string x)) = left (.string q.1) := by
      rw [sameKey_str]; simp [h q List.mem_cons_self]
    show (if (left (.string q.1) && !(Lit.string q.1).sameKey (.string x)) = true then 0 else q.2.m.b.length) + usedL _ r = (if left (.string q.1) = true then 0 else q.2.m.b.length) + usedL left r
    rw [h1, usedL_out (fun z hz => h z (List.mem_cons_of_mem _ hz))]
theorem usedL_step {left : Lit → Bool} {x : Key} {v : FV} : ∀ {es : List (Key × FV)}, Up es → fget x es = some v → left (.string x) = true → usedL (fun z => left z && !z.sameKey (.string x)) es = usedL left es + v.m.b.length
  | q :: r, hup, hg, hl => by
    obtain ⟨h1, h2⟩ := up_cons.1 hup
    obtain ⟨y, u⟩ := q
    rw [fget_cons] at hg
    show (if (left (.string y) && !(Lit.string y).sameKey (.string x)) = true then 0 else u.m.b.length) + usedL _ r = (if left (.string y) = true then 0 else u.m.b.length) + usedL left r + v.m.b.length
    rw [sameKey_str]
    by_cases e : y = x
    · rw [if_pos e] at hg
      injection hg with hg
      subst e hg
      rw [usedL_out (fun z hz e => before_ne (h1 z hz) e.symm)]
      simp [hl]; omega
    · rw [if_neg e] at hg
      rw [usedL_step h2 hg hl]
      simp [e]; omega
end Go.Proofs.Ytplbclbeccoegaa
