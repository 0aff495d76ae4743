/-
  Messages of one's own: a row that is one's own, octets elsewhere.
-/
import Derived.Test.YtbbhblnhbgkcaaaDoorMailFew
import Derived.Test.YtbbhblnhbgkcaaaDoorMailAt
import Derived.Test.YtbbhblnhbgkcaaaDoorAppend
import Derived.Test.YtbbhblnhbgkcaaaDoorHoare2
import Derived.Maps.AppendAt
namespace Go.Proofs.YtbbhblnhbgkcaaaDoor
open Go.RowKit
/-- what stands in a message -/
def strip (m : MsgV) : MsgV := ⟨m.uid, m.date, m.flags, none, 0, m.b⟩
def bare (l : List MsgV) : List MsgV := l.map strip
theorem strip_len (m : MsgV) : (strip m).b = m.b := rfl
theorem bare_len (l : List MsgV) : (bare l).length = l.length := by simp [bare]
theorem len_of_bare {l l' : List MsgV} (h : bare l = bare l') : l.length = l'.length := by
  have := congrArg List.length h
  rwa [bare_len, bare_len] at this
theorem bare_get (l : List MsgV) (j : Nat) : (bare l)[j]? = (l[j]?).map strip := by simp [bare]
theorem lastU_bare (l : List MsgV) : ∀ j, lastU (bare l) j = lastU l j
  | 0 => rfl
  | j + 1 => by
    show (match (bare l)[j]? with | some y => y.uid | none => 0) = (match l[j]? with | some y => y.uid | none => 0)
    rw [bare_get]
    cases l[j]? <;> rfl
theorem msgAt_bare (nx : Nat) (l : List MsgV) (j : Nat) : msgAt nx (bare l) j = msgAt nx l j := by
  unfold msgAt
  rw [bare_get]
  cases l[j]? with
  | none => rfl
  | some m => show msgStep nx (bare l) j (strip m) = msgStep nx l j m; unfold msgStep; rw [lastU_bare]; rfl
theorem boxRight_bare (nm : ByteArray) (e nx : Nat) (l : List MsgV) : boxRight nm e nx (bare l) = boxRight nm e nx l := by
  unfold boxRight msgsN
  rw [bare_len, List.all_congr rfl fun j => msgAt_bare nx l j]
theorem boxRight_of {nm : ByteArray} {e nx : Nat} {l l' : List MsgV} (h : bare l = bare l') : boxRight nm e nx l = boxRight nm e nx l' := by rw [← boxRight_bare, h, boxRight_bare]
theorem sameL_iff : ∀ (l m : List MsgV), sameL l m = true ↔ bare l = bare m
  | [], [] => by simp [sameL, bare]
  | [], _ :: _ => by simp [sameL, bare]
  | _ :: _, [] => by simp [sameL, bare]
  | x :: r, y :: s => by
    have ih := sameL_iff r s
    unfold sameL bare
    rw [Bool.and_eq_true, List.map_cons, List.map_cons, List.cons.injEq]
    refine and_congr ?_ ih
    unfold sameV strip
    simp [and_assoc]
theorem sameL_of {l m : List MsgV} (h : bare l = bare m) : sameL l m = true := (sameL_iff l m).2 h
theorem boxSame_of {nm : ByteArray} {e nx : Nat} {l m : List MsgV} (h : bare l = bare m) : boxSame nm e nx l nm e nx m = true := by
  unfold boxSame; rw [sameL_of h]; simp
/-- octets lie apart from a block -/
def Off (g : Nat) (m : MsgV) : Prop := 0 < m.b.length → ∀ ad, m.a = some ad → ad.block ≠ g
structure OwnM (B : Nat) (w : World) (v : Value) (l : List MsgV) : Prop where
  row : w.ownsRow B 30 4 v l.length (l.flatMap msgC)
  octs : ∀ m ∈ l, Reads w w.heap.size 1 m.a m.b.length (u8s m.b)
  off : ∀ g, v.ownBlock = some g → ∀ m ∈ l, Off g m
  uids : ∀ m ∈ l, m.uid < 4294967296
  caps : ∀ m ∈ l, m.b.length ≤ m.c ∧ m.c ≤ 9223372036854775807
section
variable {B : Nat} {w w' : World} {v : Value} {l : List MsgV}
theorem OwnM.below (h : OwnM B w v l) (hb : Below w.heap.size w w') : OwnM B w' v l :=
  ⟨own_below h.row hb, fun m hm => ((h.octs m hm).below hb).more hb.size, h.off, h.uids, h.caps⟩
theorem OwnM.mono {B' : Nat} (h : OwnM B w v l) (hb : B' ≤ B) : OwnM B' w v l := ⟨own_mono h.row hb, h.octs, h.off, h.uids, h.caps⟩
theorem OwnM.msgs (h : OwnM B w v l) : ∃ A c, v = .slice A l.length c ∧ Msgs w A l.length l ∧ l.length ≤ c := by
  obtain ⟨A, c, e, hr, hc⟩ := own_reads h.row
  exact ⟨A, c, e, ⟨rfl, hr, h.octs, h.uids, h.caps⟩, hc⟩
theorem OwnM.nil (B : Nat) (w : World) : OwnM B w (.slice none 0 0) [] := ⟨World.ownsRow_nil _ _ _ _, fun _ h => (by cases h), fun _ _ _ h => (by cases h), fun _ h => (by cases h), fun _ h => (by cases h)⟩
theorem OwnM.empty {g : Nat} (K : Blk w g 30 #[]) (hb : B ≤ g) : OwnM B w (.slice (some ⟨g, 0, none⟩) 0 0) [] :=
  ⟨ownsRow_empty K hb, fun _ h => (by cases h), fun _ _ _ h => (by cases h), fun _ h => (by cases h), fun _ h => (by cases h)⟩
theorem Msgs.off {A : Option Addr} {n g : Nat} (h : Msgs w A n l) (hg : w.heap.size ≤ g) : ∀ m ∈ l, Off g m := fun m hm hn ad ha => by
  obtain ⟨ad', e, hlt, _⟩ := (h.octs m hm).2 hn
  rw [ha] at e
  injection e with e
  subst e
  omega
theorem msgs_none {n : Nat} (h : Msgs w none n l) : n = 0 ∧ l = [] := by
  have h0 : n = 0 := by
    rcases Nat.eq_zero_or_pos n with h0 | h0
    · exact h0
    · obtain ⟨ad, e, _⟩ := h.row.2 h0; cases e
  exact ⟨h0, List.length_eq_zero_iff.1 (h.len.trans h0)⟩
def noU8 : Value → Bool
  | .int .u8 _ => false
  | _ => true
/-- octets lie apart from a block that has no bytes -/
theorem off_blk {m : MsgV} {g : Nat} {T : TypeId} {cs : Array Value} (h : Reads w w.heap.size 1 m.a m.b.length (u8s m.b)) (K : Blk w g T cs) (hno : cs.toList.all noU8 = true) : Off g m := fun hn ad ha he => by
  obtain ⟨ad', e, _, hc⟩ := h.2 hn
  rw [ha] at e
  injection e with e
  subst e
  have h0 : (u8s m.b)[0]? = some (.int .u8 (((m.b[0]'hn).toNat : Nat) : Int)) := by rw [u8s_get, List.getElem?_eq_getElem hn]; rfl
  have h1 := hc 0 _ h0
  have h2 : ad.add 0 = ad := by unfold Addr.add; simp
  rw [h2] at h1
  unfold World.cell? at h1
  unfold Blk at K
  rw [he, K] at h1
  simp only at h1
  split at h1
  · cases h1
  · have hm : Value.int .u8 (((m.b[0]'hn).toNat : Nat) : Int) ∈ cs.toList := by
      have := Array.mem_of_getElem? h1
      simpa using this
    have := List.all_eq_true.1 hno _ hm
    cases this
/-- where a row that isn't empty lies -/
theorem OwnM.at_ (h : OwnM B w v l) (hl : 0 < l.length) : ∃ g c, v = .slice (some ⟨g, 0, none⟩) l.length c ∧ B ≤ g ∧ g < w.heap.size := by
  obtain ⟨g, cap, hv, hg, hlt⟩ := h.row.form hl
  exact ⟨g, cap, hv, hg, hlt⟩
theorem Reads.apart {g n : Nat} {A : Option Addr} {xs : List Value} (h : Reads w w.heap.size 1 A n xs) (hg : 0 < n → ∀ ad, A = some ad → ad.block ≠ g) (hb : ∀ k, k < w.heap.size → k ≠ g → w'.heap[k]? = w.heap[k]?) (hs : w.heap.size ≤ w'.heap.size) : Reads w' w'.heap.size 1 A n xs := by
  refine ⟨h.1, fun hn => ?_⟩
  obtain ⟨ad, e, hlt, hc⟩ := h.2 hn
  refine ⟨ad, e, by omega, fun j u hu => ?_⟩
  have := hc j u hu
  rwa [← World.cell?_of_block (w' := w') (hb _ (by rw [block_of_add]; exact hlt) (by rw [block_of_add]; exact hg hn ad e))] at this
theorem flatK_set {M : Type} {f : M → List Value} {k : Nat} (hf : ∀ x, (f x).length = k) : ∀ (l : List M) (i j : Nat) (x y : M) (u : Value), l[i]? = some x → j < k → f y = (f x).set j u → (l.set i y).flatMap f = (l.flatMap f).set (i * k + j) u
  | z :: r, 0, j, x, y, u, h, hj, e => by
    have e2 : z = x := by simpa using h
    subst e2
    rw [List.set_cons_zero, List.flatMap_cons, List.flatMap_cons, e, Nat.zero_mul, Nat.zero_add, List.set_append_left _ _ (by rw [hf]; exact hj)]
  | z :: r, i + 1, j, x, y, u, h, hj, e => by
    have ih := flatK_set hf r i j x y u (by simpa using h) hj e
    rw [List.set_cons_succ, List.flatMap_cons, List.flatMap_cons, ih, List.set_append_right _ _ (by rw [hf, Nat.succ_mul]; omega)]
    congr 2
    rw [hf, Nat.succ_mul]; omega
theorem own_len {e : TypeId} {size k n c : Nat} {A : Option Addr} {xs : List Value} (h : w.ownsRow B e size (.slice A n c) k xs) : k = n := by
  rcases h.2 with ⟨e, h0⟩ | ⟨g', cap, cur, e, _⟩
  · injection e with _ e2 _; omega
  · injection e with _ e2 _; omega
theorem own_ne2 {B2 size size2 n m : Nat} {u : Value} {e t : TypeId} {xs ys : List Value} (h : w.ownsRow B e size v n xs) (h2 : w.ownsRow B2 t size2 u m ys) (ht : t ≠ e) {g g2 : Nat} (hg : v.ownBlock = some g) (hg2 : u.ownBlock = some g2) : g ≠ g2 := fun he => by
  subst he
  obtain ⟨cs, hc⟩ := own_kind h2 hg2
  exact own_ne h (show Blk w g t cs from hc) ht g hg rfl
theorem own_caps {e : TypeId} {size n : Nat} {xs : List Value} (h : w.ownsRow B e size v n xs) : ∃ A c, v = .slice A n c ∧ n ≤ c ∧ c ≤ 9223372036854775807 := by
  rcases h.2 with ⟨e, h0⟩ | ⟨g', cap, cur, e, _, _, h1, h2, _⟩
  · exact ⟨none, 0, by rw [e, h0], by omega, by omega⟩
  · exact ⟨_, cap, e, h1, by unfold maxLen at h2; omega⟩
/-- a message's cells -/
theorem OwnM.cell {g n c i k : Nat} {x : MsgV} {u : Value} (h : OwnM B w (.slice (some ⟨g, 0, none⟩) n c) l) (hx : l[i]? = some x) (hk : (msgC x)[k]? = some u) : w.cell? ⟨g, i * 4 + k, none⟩ = some u := by
  have hn := own_len h.row
  have hr := h.row
  rw [hn] at hr
  have hi := (List.getElem?_eq_some_iff.1 hx).1
  have hk4 : k < 4 := (List.getElem?_eq_some_iff.1 hk).1
  rw [hr.cellAt _ (by omega), flatK_at msgC_len l i k x hx hk4, hk]
theorem OwnM.only {k : Nat} (h : OwnM B w v l) (hs : Only k w w') (hne : ∀ g, v.ownBlock = some g → g ≠ k) (hoff : ∀ m ∈ l, Off k m) : OwnM B w' v l :=
  ⟨own_keep h.row fun g hg => hs.block g (hne g hg), fun m hm => Reads.apart (h.octs m hm) (hoff m hm) (fun j _ hj => hs.block j hj) (by rw [hs.size]; exact Nat.le_refl _), h.off, h.uids, h.caps⟩
/-- a field of a message is set -/
theorem OwnM.set {g n c i j : Nat} {x y : MsgV} {u : Value} (h : OwnM B w (.slice (some ⟨g, 0, none⟩) n c) l) (hx : l[i]? = some x) (hj : j < 4) (hy : msgC y = (msgC x).set j u)
    (ho : Reads w w.heap.size 1 y.a y.b.length (u8s y.b)) (hoff : Off g y) (hu : y.uid < 4294967296) (hc : y.b.length ≤ y.c ∧ y.c ≤ 9223372036854775807) :
    OwnM B (w.setCell ⟨g, i * 4 + j, none⟩ u) (.slice (some ⟨g, 0, none⟩) n c) (l.set i y) ∧ w.grownBy (w.setCell ⟨g, i * 4 + j, none⟩ u) (some g) := by
  have hn := own_len h.row
  have hr := h.row
  rw [hn] at hr
  obtain ⟨h1, h2⟩ := hr.stored (i * 4 + j) u
  have hm : ∀ {m}, m ∈ l.set i y → m = y ∨ m ∈ l := fun {m} hm => by
    rcases List.mem_or_eq_of_mem_set hm with h | h
    · exact .inr h
    · exact .inl h
  have hk : ∀ k, k < w.heap.size → k ≠ g → (w.setCell ⟨g, i * 4 + j, none⟩ u).heap[k]? = w.heap[k]? := fun k hk hne => h2.block k hk (fun e => hne (Option.some.inj e))
  refine ⟨⟨?_, fun m hm' => ?_, fun g' hg' m hm' => ?_, fun m hm' => ?_, fun m hm' => ?_⟩, h2⟩
  · rw [List.length_set, flatK_set msgC_len l i j x y u hx hj hy, hn]; exact h1
  · rcases hm hm' with e | e
    · subst e; exact Reads.apart ho hoff hk h2.size
    · exact Reads.apart (h.octs m e) (h.off g rfl m e) hk h2.size
  · have : g = g' := by simpa [Value.ownBlock] using hg'
    subst this
    rcases hm hm' with e | e
    · subst e; exact hoff
    · exact h.off g rfl m e
  · rcases hm hm' with e | e
    · subst e; exact hu
    · exact h.uids m e
  · rcases hm hm' with e | e
    · subst e; exact hc
    · exact h.caps m e
theorem bare_set {l : List MsgV} {i : Nat} {x y : MsgV} (hx : l[i]? = some x) (h : strip y = strip x) : bare (l.set i y) = bare l := by
  unfold bare
  rw [List.map_set, h]
  refine List.ext_getElem? fun j => ?_
  rw [List.getElem?_set]
  split
  · next e =>
    subst e
    rw [List.getElem?_map, hx]
    split <;> simp_all
  · rfl
theorem bare_at {l l' : List MsgV} {j : Nat} {x : MsgV} (h : bare l' = bare l) (hx : l'[j]? = some x) : ∃ y, l[j]? = some y ∧ strip x = strip y := by
  have h2 := bare_get l' j
  rw [h, bare_get, hx] at h2
  cases hy : l[j]? with
  | none => rw [hy] at h2; cases h2
  | some y => rw [hy] at h2; exact ⟨y, rfl, (Option.some.inj h2).symm⟩
/-- octets lie in new memory -/
def NewO (B : Nat) (l : List MsgV) : Prop := ∀ m ∈ l, 0 < m.b.length → ∀ ad, m.a = some ad → B ≤ ad.block
theorem NewO.mono {B B' : Nat} {l : List MsgV} (h : NewO B l) (hb : B' ≤ B) : NewO B' l := fun m hm hn ad ha => Nat.le_trans hb (h m hm hn ad ha)
theorem NewO.append {B : Nat} {l k : List MsgV} (h : NewO B l) (h2 : NewO B k) : NewO B (l ++ k) := fun m hm => by
  rcases List.mem_append.1 hm with hm | hm
  · exact h m hm
  · exact h2 m hm
theorem msg_info : (Tryd.prog.info? 30).map (fun i => (i.zero, i.size, i.bytes)) = some (some (.agg #[.int .u32 0, .int .i64 0, .int .i64 0, .slice none 0 0]), 4, 48) := by kernel_rfl
theorem msgC_one (l : List MsgV) : ∀ u ∈ l.flatMap msgC, u.oneCell' = true := by
  intro u hu
  obtain ⟨m, _, hm⟩ := List.mem_flatMap.1 hu
  unfold msgC at hm
  simp only [List.mem_cons, List.not_mem_nil, or_false] at hm
  rcases hm with rfl | rfl | rfl | rfl <;> rfl
theorem run_append_none {P : Program} {t ty e : TypeId} {i : TypeInfo} {base size n : Nat} {xs : List Value} (ht : P.underlying t = some (.slice e)) (hi : P.info? e = some i) (hown : w.ownsRow base e size v n xs) (c : Nat) :
    (Builtin.append_ #[t, t] ty #[v, .slice none 0 c]).run P w = .ok v w := by
  rcases hown.2 with ⟨rfl, rfl⟩ | ⟨g, cap, cur, rfl, _, _, hnc, _⟩
  · simp [Builtin.append_, run_underlying ht, sizeOf, typeInfo, hi, Builtin.lenOf, Builtin.firstCells, Result.andThen]
  · have := run_append_room_src (P := P) w t t ty e i ht hi g 0 n cap (.slice none 0 c) 0 [] (Src.ofNil w ht c) (by omega) (fun j hj => by simp at hj) (fun j hj => by simp at hj)
    rw [setCells_nil] at this
    exact this
/-- messages are appended -/
theorem run_appM {u : Value} {k : List MsgV} {A : Option Addr} {c : Nat} (h : OwnM B w v l) (hu : u = .slice A k.length c) (hk : Msgs w A k.length k) (hoff : ∀ g, v.ownBlock = some g → ∀ m ∈ k, Off g m) (hlen : l.length + k.length ≤ 1000000) (hB : B ≤ w.heap.size) :
    ∃ r w', (Builtin.append_ #[23, 23] 23 #[v, u]).run Tryd.prog w = .ok r w' ∧ OwnM B w' r (l ++ k) ∧ w.grownBy w' v.ownBlock ∧ (r.ownBlock = v.ownBlock ∨ r.ownBlock = some w.heap.size) := by
  subst hu
  obtain ⟨i0, hi0, hz0, hz1, hz2⟩ := info_parts msg_info
  have key : ∃ r w', (Builtin.append_ #[23, 23] 23 #[v, .slice A k.length c]).run Tryd.prog w = .ok r w' ∧ w'.ownsRow B 30 4 r (l.length + k.length) (l.flatMap msgC ++ k.flatMap msgC) ∧ w.grownBy w' v.ownBlock ∧ (r.ownBlock = v.ownBlock ∨ r.ownBlock = some w.heap.size) := by
    cases A with
    | some ad =>
      have hc : ∀ j u, (k.flatMap msgC)[j]? = some u → w.cell? (ad.add j) = some u := by
        rcases Nat.eq_zero_or_pos k.length with h0 | h0
        · intro j u hj
          rw [List.length_eq_zero_iff.1 h0] at hj
          cases hj
        · obtain ⟨ad', e, _, hc⟩ := hk.row.2 h0
          injection e with e; subst e; exact hc
      obtain ⟨v', w', hr, h2, h3, _, h5⟩ := run_append_own_at (P := Tryd.prog) w B 23 23 30 i0 _ 4 48 Tryd.underlying23 hi0 hz0 hz1 hz2 rfl (by omega) v l.length _ h.row ad k.length c _ hk.row.1 hc (msgC_one k) (by unfold maxLen; omega) (by omega) hB
      exact ⟨v', w', hr, h2, h3, h5⟩
    | none =>
      have h0 : k.length = 0 := by
        rcases Nat.eq_zero_or_pos k.length with h0 | h0
        · exact h0
        · obtain ⟨ad, e, _⟩ := hk.row.2 h0; cases e
      have hk0 : k = [] := List.length_eq_zero_iff.1 h0
      subst hk0
      exact ⟨v, w, run_append_none Tryd.underlying23 hi0 h.row c, by simpa using h.row, ⟨rfl, rfl, rfl, Nat.le_refl _, fun _ _ _ => rfl⟩, .inl rfl⟩
  obtain ⟨r, w', hr, h2, h3, h4⟩ := key
  have hoffB : ∀ {m : MsgV}, Reads w w.heap.size 1 m.a m.b.length (u8s m.b) → (∀ g, v.ownBlock = some g → Off g m) → ∀ g, r.ownBlock = some g → Off g m := fun {m} hm ho g hg => by
    rcases h4 with e | e
    · exact ho g (e ▸ hg)
    · rw [e] at hg
      injection hg with hg
      subst hg
      intro hn ad ha
      obtain ⟨ad', e', hlt, _⟩ := hm.2 hn
      rw [ha] at e'
      injection e' with e'
      subst e'
      omega
  have hkeep : ∀ {m : MsgV}, Reads w w.heap.size 1 m.a m.b.length (u8s m.b) → (∀ g, v.ownBlock = some g → Off g m) → Reads w' w'.heap.size 1 m.a m.b.length (u8s m.b) := fun {m} hm ho => by
    cases hb : v.ownBlock with
    | none => exact (hm.grown h3 (Nat.le_refl _) fun g hg => by rw [hb] at hg; cases hg).more h3.size
    | some g => exact Reads.apart hm (ho g hb) (fun j hj hne => h3.block j hj (fun e => by rw [hb] at e; exact hne (Option.some.inj e))) h3.size
  refine ⟨r, w', hr, ⟨?_, fun m hm => ?_, fun g hg m hm => ?_, fun m hm => ?_, fun m hm => ?_⟩, h3, h4⟩
  · rw [List.length_append, List.flatMap_append]; exact h2
  · rcases List.mem_append.1 hm with hm | hm
    · exact hkeep (h.octs m hm) fun g hg => h.off g hg m hm
    · exact hkeep (hk.octs m hm) fun g hg => hoff g hg m hm
  · rcases List.mem_append.1 hm with hm | hm
    · exact hoffB (h.octs m hm) (fun g hg => h.off g hg m hm) g hg
    · exact hoffB (hk.octs m hm) (fun g hg => hoff g hg m hm) g hg
  · rcases List.mem_append.1 hm with hm | hm
    · exact h.uids m hm
    · exact hk.uids m hm
  · rcases List.mem_append.1 hm with hm | hm
    · exact h.caps m hm
    · exact hk.caps m hm
end
end Go.Proofs.YtbbhblnhbgkcaaaDoor
