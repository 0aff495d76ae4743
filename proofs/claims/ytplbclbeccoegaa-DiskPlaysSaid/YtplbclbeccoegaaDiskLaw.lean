/-
  A map of names as a sorted list: plain words, no program in sight.
-/
import Derived.Sort.KeysCollected
import Derived.Maps.RangeWalk
namespace Go.Proofs.Ytplbclbeccoegaa
open Go.RowKit Go.Maps
abbrev Key := List UInt8
theorem less_eq : ∀ x y : Key, Op.bytesLess x y = bytesBefore x y
  | [], [] => rfl
  | [], _ :: _ => rfl
  | _ :: _, [] => rfl
  | a :: x, b :: y => by simp only [Op.bytesLess, bytesBefore, less_eq x y]
theorem lt_iff : ∀ x y : Key, x < y ↔ bytesBefore x y = true
  | [], [] => by simp [bytesBefore]
  | [], _ :: _ => by simp [bytesBefore]
  | _ :: _, [] => by simp [bytesBefore]
  | a :: x, b :: y => by simp [bytesBefore, List.cons_lt_cons_iff, lt_iff x y]
theorem leB_eq (x y : Key) : decide (x ≤ y) = !bytesBefore y x := by
  have : x ≤ y ↔ ¬ bytesBefore y x = true := by rw [← lt_iff]; exact Iff.rfl
  by_cases h : bytesBefore y x = true <;> simp [this, h]
theorem before_trans {x y z : Key} (h : bytesBefore x y = true) (k : bytesBefore y z = true) : bytesBefore x z = true := WideShapes.bytes_trans x y z h k
theorem before_irrefl (x : Key) : bytesBefore x x = false := WideAt.bytes_irrefl x
theorem before_ne {x y : Key} (h : bytesBefore x y = true) : x ≠ y := fun e => by subst e; rw [before_irrefl] at h; cases h
theorem before_anti {x y : Key} (h : bytesBefore x y = true) : bytesBefore y x = false := by
  cases hb : bytesBefore y x
  · rfl
  · have := before_trans h hb; rw [before_irrefl] at this; cases this
theorem before_total {x y : Key} (h : x ≠ y) (k : bytesBefore x y = false) : bytesBefore y x = true := by
  rcases WideAt.bytes_total x y h with h' | h'
  · rw [k] at h'; cases h'
  · exact h'

section
variable {V U : Type}
/-- the keys rise -/
def Up (l : List (Key × V)) : Prop := l.Pairwise fun p q => bytesBefore p.1 q.1 = true
def fget (k : Key) : List (Key × V) → Option V
  | [] => none
  | (y, v) :: r => if y = k then some v else fget k r
def fput (k : Key) (v : V) : List (Key × V) → List (Key × V)
  | [] => [(k, v)]
  | (y, u) :: r => if y = k then (k, v) :: r else if bytesBefore k y = true then (k, v) :: (y, u) :: r else (y, u) :: fput k v r
def fdel (k : Key) (l : List (Key × V)) : List (Key × V) := l.filter fun p => p.1 != k
def fmap (g : V → U) (l : List (Key × V)) : List (Key × U) := l.map fun p => (p.1, g p.2)

theorem fget_cons (k y : Key) (v : V) (r : List (Key × V)) : fget k ((y, v) :: r) = if y = k then some v else fget k r := rfl
theorem up_nil : Up ([] : List (Key × V)) := List.Pairwise.nil
theorem up_cons {p : Key × V} {l : List (Key × V)} : Up (p :: l) ↔ (∀ q ∈ l, bytesBefore p.1 q.1 = true) ∧ Up l := List.pairwise_cons
theorem up_fmap {g : V → U} {l : List (Key × V)} : Up (fmap g l) ↔ Up l := by
  unfold Up fmap
  rw [List.pairwise_map]
theorem up_fdel {l : List (Key × V)} (h : Up l) (k : Key) : Up (fdel k l) := List.Pairwise.filter _ h
theorem mem_fput {k : Key} {v : V} {q : Key × V} : ∀ {l : List (Key × V)}, q ∈ fput k v l → q = (k, v) ∨ q ∈ l
  | [], h => by simp [fput] at h; exact .inl h
  | (y, u) :: r, h => by
    unfold fput at h
    split at h
    · rcases List.mem_cons.1 h with h | h
      · exact .inl h
      · exact .inr (List.mem_cons_of_mem _ h)
    · split at h
      · rcases List.mem_cons.1 h with h | h
        · exact .inl h
        · exact .inr h
      · rcases List.mem_cons.1 h with h | h
        · exact .inr (by rw [h]; exact List.mem_cons_self)
        · rcases mem_fput h with h | h
          · exact .inl h
          · exact .inr (List.mem_cons_of_mem _ h)
theorem up_fput {k : Key} {v : V} : ∀ {l : List (Key × V)}, Up l → Up (fput k v l)
  | [], _ => by unfold fput Up; simp
  | (y, u) :: r, h => by
    obtain ⟨h1, h2⟩ := up_cons.1 h
    unfold fput
    split
    · rename_i e; subst e; exact up_cons.2 ⟨h1, h2⟩
    · rename_i hne
      split
      · rename_i hb
        refine up_cons.2 ⟨fun q hq => ?_, h⟩
        rcases List.mem_cons.1 hq with rfl | hq
        · exact hb
        · exact before_trans hb (h1 q hq)
      · rename_i hb
        refine up_cons.2 ⟨fun q hq => ?_, up_fput h2⟩
        rcases mem_fput hq with rfl | hq
        · exact before_total (fun e => hne e.symm) (by simpa using hb)
        · exact h1 q hq
theorem fget_none_of {k : Key} : ∀ {l : List (Key × V)}, (∀ q ∈ l, q.1 ≠ k) → fget k l = none
  | [], _ => rfl
  | (y, u) :: r, h => by
    unfold fget
    rw [if_neg (h (y, u) List.mem_cons_self)]
    exact fget_none_of fun q hq => h q (List.mem_cons_of_mem _ hq)
theorem fget_mem {k : Key} {v : V} : ∀ {l : List (Key × V)}, fget k l = some v → (k, v) ∈ l
  | [], h => by cases h
  | (y, u) :: r, h => by
    unfold fget at h
    split at h
    · rename_i e; injection h with h; subst e h; exact List.mem_cons_self
    · exact List.mem_cons_of_mem _ (fget_mem h)
theorem mem_of_isSome {k : Key} {l : List (Key × V)} (h : (fget k l).isSome = true) : ∃ v, (k, v) ∈ l := by
  obtain ⟨v, hv⟩ := Option.isSome_iff_exists.1 h
  exact ⟨v, fget_mem hv⟩
theorem fget_of_mem {k : Key} {v : V} : ∀ {l : List (Key × V)}, Up l → (k, v) ∈ l → fget k l = some v
  | (y, u) :: r, h, hm => by
    obtain ⟨h1, h2⟩ := up_cons.1 h
    unfold fget
    rcases List.mem_cons.1 hm with e | hm
    · injection e with e1 e2; subst e1 e2; simp
    · rw [if_neg (before_ne (h1 _ hm))]
      exact fget_of_mem h2 hm
theorem fget_fmap (g : V → U) (k : Key) : ∀ l : List (Key × V), fget k (fmap g l) = (fget k l).map g
  | [] => rfl
  | (y, u) :: r => by
    show (if y = k then some (g u) else fget k (fmap g r)) = (if y = k then some u else fget k r).map g
    split
    · rfl
    · exact fget_fmap g k r
theorem fput_fmap (g : V → U) (k : Key) (v : V) : ∀ l : List (Key × V), fmap g (fput k v l) = fput k (g v) (fmap g l)
  | [] => rfl
  | (y, u) :: r => by
    show fmap g (if y = k then (k, v) :: r else if bytesBefore k y = true then (k, v) :: (y, u) :: r else (y, u) :: fput k v r) = (if y = k then (k, g v) :: fmap g r else if bytesBefore k y = true then (k, g v) :: (y, g u) :: fmap g r else (y, g u) :: fput k (g v) (fmap g r))
    split
    · rfl
    · split
      · rfl
      · show (y, g u) :: fmap g (fput k v r) = _
        rw [fput_fmap g k v r]
theorem fdel_fmap (g : V → U) (k : Key) (l : List (Key × V)) : fmap g (fdel k l) = fdel k (fmap g l) := by
  unfold fmap fdel
  rw [List.filter_map]
  rfl
theorem fget_fput {k j : Key} {v : V} : ∀ {l : List (Key × V)}, fget j (fput k v l) = if j = k then some v else fget j l
  | [] => by unfold fput fget fget; by_cases h : k = j <;> simp [h]; intro e; exact absurd e.symm h
  | (y, u) :: r => by
    unfold fput
    by_cases h1 : y = k
    · rw [if_pos h1]
      unfold fget
      subst h1
      by_cases h : y = j
      · subst h; simp
      · rw [if_neg h, if_neg (fun e => h e.symm), if_neg h]
    · rw [if_neg h1]
      by_cases h2 : bytesBefore k y = true
      · rw [if_pos h2]
        show (if k = j then some v else fget j ((y, u) :: r)) = _
        by_cases h : k = j
        · subst h; simp
        · rw [if_neg h, if_neg (fun e => h e.symm)]
      · rw [if_neg h2]
        show (if y = j then some u else fget j (fput k v r)) = _
        rw [fget_fput, fget_cons]
        by_cases h : y = j
        · subst h; rw [if_pos rfl, if_neg h1, if_pos rfl]
        · rw [if_neg h, if_neg h]
theorem fget_fdel {k j : Key} : ∀ {l : List (Key × V)}, fget j (fdel k l) = if j = k then none else fget j l
  | [] => by unfold fdel fget; simp
  | (y, u) :: r => by
    have ih := fget_fdel (k := k) (j := j) (l := r)
    unfold fdel at ih ⊢
    rw [List.filter_cons]
    by_cases h1 : y = k
    · subst h1
      simp only [bne_self_eq_false, Bool.false_eq_true, if_false, ih]
      conv => rhs; unfold fget
      by_cases h : j = y
      · rw [if_pos h, if_pos h]
      · rw [if_neg h, if_neg h, if_neg (fun e => h e.symm)]
    · have : (y != k) = true := by simpa using h1
      simp only [this, if_true]
      unfold fget
      rw [ih]
      by_cases h : y = j
      · subst h; rw [if_pos rfl, if_neg h1, if_pos rfl]
      · rw [if_neg h, if_neg h]
/-- sorted lists that answer alike are one -/
theorem up_ext : ∀ {l m : List (Key × V)}, Up l → Up m → (∀ k, fget k l = fget k m) → l = m
  | [], [], _, _, _ => rfl
  | [], (y, u) :: r, _, _, h => by have := h y; simp [fget] at this
  | (y, u) :: r, [], _, _, h => by have := h y; simp [fget] at this
  | (y, u) :: r, (z, v) :: s, hl, hm, h => by
    obtain ⟨l1, l2⟩ := up_cons.1 hl
    obtain ⟨m1, m2⟩ := up_cons.1 hm
    have hyz : y = z := by
      by_cases e : y = z
      · exact e
      · exfalso
        have a1 : fget y ((z, v) :: s) = some u := by rw [← h y]; simp [fget]
        have a2 : fget z ((y, u) :: r) = some v := by rw [h z]; simp [fget]
        have b1 : (y, u) ∈ s := by
          rcases List.mem_cons.1 (fget_mem a1) with h' | h'
          · injection h' with h' _; exact absurd h' e
          · exact h'
        have b2 : (z, v) ∈ r := by
          rcases List.mem_cons.1 (fget_mem a2) with h' | h'
          · injection h' with h' _; exact absurd h'.symm e
          · exact h'
        have c1 := m1 _ b1
        have c2 := l1 _ b2
        simp only at c1 c2
        rw [before_anti c1] at c2
        cases c2
    subst hyz
    have huv : u = v := by have := h y; simpa [fget] using this
    subst huv
    congr 1
    refine up_ext l2 m2 fun k => ?_
    by_cases hk : y = k
    · subst hk
      rw [fget_none_of (fun q hq e => before_ne (l1 q hq) e.symm), fget_none_of (fun q hq e => before_ne (m1 q hq) e.symm)]
    · have := h k
      unfold fget at this
      rwa [if_neg hk, if_neg hk] at this
theorem fdel_fput {a b : Key} {v : V} {l : List (Key × V)} (h : Up l) (hne : a ≠ b) : fdel a (fput b v l) = fput b v (fdel a l) := by
  refine up_ext (up_fdel (up_fput h) a) (up_fput (up_fdel h a)) fun k => ?_
  rw [fget_fdel, fget_fput, fget_fput, fget_fdel]
  by_cases h1 : k = a
  · subst h1; simp [hne]
  · simp [h1]
theorem length_fput {k : Key} {v : V} : ∀ {l : List (Key × V)}, Up l → (fput k v l).length = l.length + (if (fget k l).isSome = true then 0 else 1)
  | [], _ => by simp [fput, fget]
  | (y, u) :: r, h => by
    obtain ⟨h1, h2⟩ := up_cons.1 h
    unfold fput fget
    by_cases e : y = k
    · rw [if_pos e, if_pos e]; simp
    · rw [if_neg e, if_neg e]
      by_cases hb : bytesBefore k y = true
      · rw [if_pos hb, fget_none_of (fun q hq e' => by have := h1 q hq; rw [e'] at this; rw [before_anti this] at hb; cases hb)]
        simp
      · rw [if_neg hb, List.length_cons, length_fput h2, List.length_cons]
        omega
theorem length_fdel_le (k : Key) (l : List (Key × V)) : (fdel k l).length ≤ l.length := List.length_filter_le _ _
theorem fput_at {k : Key} {u v : V} : ∀ {l : List (Key × V)} {r}, Up (l ++ (k, u) :: r) → fput k v (l ++ (k, u) :: r) = l ++ (k, v) :: r
  | [], r, _ => by simp [fput]
  | (y, x) :: l, r, h => by
    have h' : Up ((y, x) :: (l ++ (k, u) :: r)) := h
    obtain ⟨h1, h2⟩ := up_cons.1 h'
    have hb : bytesBefore y k = true := h1 (k, u) (by simp)
    show fput k v ((y, x) :: (l ++ (k, u) :: r)) = _
    unfold fput
    rw [if_neg (before_ne hb), if_neg (by rw [before_anti hb]; simp), fput_at h2]
    rfl
theorem fget_at {k : Key} {u : V} {l r : List (Key × V)} (h : Up (l ++ (k, u) :: r)) : fget k (l ++ (k, u) :: r) = some u := fget_of_mem h (by simp)
theorem fdel_at {k : Key} {u : V} {l r : List (Key × V)} (h : Up (l ++ (k, u) :: r)) : fdel k (l ++ (k, u) :: r) = l ++ r := by
  have h1 : ∀ q ∈ l, q.1 ≠ k := fun q hq => before_ne ((List.pairwise_append.1 h).2.2 q hq (k, u) List.mem_cons_self)
  have h2 : ∀ q ∈ r, q.1 ≠ k := fun q hq e => before_ne ((up_cons.1 (List.pairwise_append.1 h).2.1).1 q hq) e.symm
  unfold fdel
  rw [List.filter_append, List.filter_cons]
  simp only [bne_self_eq_false, Bool.false_eq_true, if_false]
  rw [List.filter_eq_self.2 (fun q hq => by simpa using h1 q hq), List.filter_eq_self.2 (fun q hq => by simpa using h2 q hq)]

/-! as a map's datum -/
variable {H : Type}
def dmap (g : V → DataW H) (l : List (Key × V)) : DataW H := .map (l.map fun p => (Lit.string p.1, g p.2))
theorem sameKey_str (a b : Key) : (Lit.string a).sameKey (.string b) = decide (a = b) := by
  simp [Lit.sameKey]
  by_cases h : a = b <;> simp [h]
theorem dmap_at (g : V → DataW H) (l : List (Key × V)) (k : Key) (z : DataW H) : (dmap g l).atKey (.string k) z = match fget k l with | some v => g v | none => z := by
  unfold dmap DataW.atKey
  simp only
  induction l with
  | nil => rfl
  | cons p r ih =>
    obtain ⟨y, u⟩ := p
    simp only [List.map_cons, List.find?_cons, sameKey_str]
    unfold fget
    by_cases h : y = k
    · simp [h]
    · simp only [h, decide_false, if_false]
      exact ih
theorem dmap_has (g : V → DataW H) (l : List (Key × V)) (k : Key) : Maps.has (dmap g l) (.string k) = (fget k l).isSome := by
  unfold dmap Maps.has
  simp only
  induction l with
  | nil => rfl
  | cons p r ih =>
    obtain ⟨y, u⟩ := p
    simp only [List.map_cons, List.any_cons, sameKey_str]
    unfold fget
    by_cases h : y = k
    · simp [h]
    · simp only [h, decide_false, if_false, Bool.false_or]
      exact ih
theorem dmap_size (g : V → DataW H) (l : List (Key × V)) : Maps.size (dmap g l) = l.length := by simp [dmap, Maps.size]
theorem dmap_keys (g : V → DataW H) (l : List (Key × V)) : strKeys (dmap g l) = l.map (·.1) := by
  simp [dmap, strKeys, strOf, List.map_map, Function.comp_def]
theorem insert_rest (g : V → DataW H) (k : Key) (d : DataW H) {r : List (Key × V)} (h : ∀ q ∈ r, bytesBefore k q.1 = true) :
    DataW.insert (Lit.string k, d) ((r.map fun p => (Lit.string p.1, g p.2)).filter fun p => !p.1.sameKey (.string k)) = (Lit.string k, d) :: r.map fun p => (Lit.string p.1, g p.2) := by
  rw [List.filter_eq_self.2 (fun p hp => by
    obtain ⟨q, hq, rfl⟩ := List.mem_map.1 hp
    have := before_ne (h q hq)
    simp only [sameKey_str, Bool.not_eq_true', decide_eq_false_iff_not]
    exact fun e => this e.symm)]
  cases r with
  | nil => rfl
  | cons q r =>
    show (if bytesBefore k q.1 = true then _ else _) = _
    rw [if_pos (h q List.mem_cons_self)]
    rfl
theorem dmap_put (g : V → DataW H) {l : List (Key × V)} (hup : Up l) (k : Key) (v : V) : (dmap g l).put (.string k) (g v) = dmap g (fput k v l) := by
  unfold dmap DataW.put
  simp only
  congr 1
  induction l with
  | nil => rfl
  | cons p r ih =>
    obtain ⟨y, u⟩ := p
    obtain ⟨h1, h2⟩ := up_cons.1 hup
    simp only [List.map_cons, List.filter_cons, sameKey_str]
    unfold fput
    by_cases e : y = k
    · subst e
      simp only [decide_true, Bool.not_true, Bool.false_eq_true, if_false, if_true, List.map_cons]
      exact insert_rest g y (g v) h1
    · simp only [e, decide_false, Bool.not_false, if_true, if_false]
      by_cases hb : bytesBefore k y = true
      · rw [if_pos hb]
        show (if bytesBefore k y = true then _ else _) = _
        rw [if_pos hb, List.filter_eq_self.2 (fun p hp => by
          obtain ⟨q, hq, rfl⟩ := List.mem_map.1 hp
          have := before_ne (before_trans hb (h1 q hq))
          simp only [sameKey_str, Bool.not_eq_true', decide_eq_false_iff_not]
          exact fun e => this e.symm)]
        rfl
      · rw [if_neg hb]
        show (if bytesBefore k y = true then _ else _) = _
        rw [if_neg hb, ih h2]
        rfl
theorem dmap_del (g : V → DataW H) (l : List (Key × V)) (k : Key) : (dmap g l).del (.string k) = dmap g (fdel k l) := by
  unfold dmap DataW.del fdel
  simp only
  congr 1
  rw [List.filter_map]
  congr 1
/-- the sorted keys are the list's own -/
theorem sorted_names {l : List (Key × V)} (hup : Up l) {ss : List Key} (h : ss.Perm (l.map (·.1))) : ss.mergeSort leB = l.map (·.1) := by
  rw [mergeSort_of_perm h]
  refine List.mergeSort_of_pairwise ?_
  rw [List.pairwise_map]
  refine List.Pairwise.imp (fun {p q} hpq => ?_) hup
  show decide (p.1 ≤ q.1) = true
  rw [leB_eq, before_anti hpq]
  rfl
end
end Go.Proofs.Ytplbclbeccoegaa
