/-
  The disk as plain values: what each change answers, and what is left.
-/
import Derived.Test.YtplbclbeccoegaaDiskLaw
namespace Go.Proofs.Ytplbclbeccoegaa
structure FileM where
  b : List UInt8
  safe : Nat
  ever : Bool
structure DiskM where
  cap : Nat
  files : List (Key × FileM)
  fuse : Int
  lost : Bool
def FileM.whole (f : FileM) : Bool := f.ever && decide (f.safe = f.b.length)
def FileM.none_ : FileM := ⟨[], 0, false⟩
def used : List (Key × FileM) → Nat
  | [] => 0
  | q :: r => q.2.b.length + used r
def rightC (c : UInt8) : Bool := (decide (97 ≤ c.toNat) && decide (c.toNat ≤ 122)) || (decide (48 ≤ c.toNat) && decide (c.toNat ≤ 57)) || decide (c.toNat = 46)
def right (s : Key) : Bool := s.all rightC && decide (1 ≤ s.length) && decide (s.length ≤ 40)
def DiskM.room (d : DiskM) : Nat := d.cap - used d.files
def DiskM.burn (d : DiskM) : DiskM := { d with lost := decide (d.fuse = 0), fuse := if 0 < d.fuse then d.fuse - 1 else d.fuse }
def DiskM.len (d : DiskM) (k : Key) : Nat := match fget k d.files with | some f => f.b.length | none => 0
/-- why nothing can be asked -/
def DiskM.gone (d : DiskM) : Int := if d.lost = true then 6 else 0
def DiskM.there (d : DiskM) (k : Key) : Int := if d.lost = true then 6 else if (fget k d.files).isSome = true then 0 else 7
def halved (d : DiskM) (b : List UInt8) : List UInt8 := if d.fuse = 0 then b.take (b.length / 2) else b
def dAppend (d : DiskM) (k : Key) (b : List UInt8) : Int × DiskM :=
  if d.lost = true then (6, d) else if right k = false then (1, d) else if d.room < b.length then (4, d)
  else if d.fuse = 0 ∧ fget k d.files = none ∧ (halved d b).length = 0 then (6, d.burn)
  else (d.burn.gone, { d.burn with files := fput k { (fget k d.files).getD FileM.none_ with b := ((fget k d.files).getD FileM.none_).b ++ halved d b } d.files })
def dSync (d : DiskM) (k : Key) : Int × DiskM :=
  if d.lost = true then (6, d) else match fget k d.files with
  | none => (7, d)
  | some f => if d.fuse = 0 then (6, d.burn) else (0, { d.burn with files := fput k { f with safe := f.b.length, ever := true } d.files })
def dRename (d : DiskM) (a b : Key) : Int × DiskM :=
  if d.lost = true then (6, d) else if right b = false ∨ a = b then (1, d) else match fget a d.files with
  | none => (7, d)
  | some f => if f.whole = false then (10, d) else if d.fuse = 0 then (6, d.burn) else (0, { d.burn with files := fdel a (fput b f d.files) })
def dRemove (d : DiskM) (k : Key) : Int × DiskM :=
  if d.lost = true then (6, d) else match fget k d.files with
  | none => (7, d)
  | some _ => if d.fuse = 0 then (6, d.burn) else (0, { d.burn with files := fdel k d.files })
def dFuse (d : DiskM) (n : Int) : Int × DiskM :=
  if d.lost = true then (6, d) else if n < 0 then (1, d) else (0, { d with fuse := n })
def dHarm (d : DiskM) (k : Key) (b : List UInt8) : Int × DiskM :=
  if d.lost = true then (6, d) else if right k = false then (1, d) else if d.room + d.len k < b.length then (4, d)
  else (0, { d with files := fput k ⟨b, b.length, true⟩ d.files })
def dLose (d : DiskM) (k : Key) : Int × DiskM :=
  if d.lost = true then (6, d) else match fget k d.files with
  | none => (7, d)
  | some _ => (0, { d with files := fdel k d.files })
/-- how much of a file's unsafe bytes is kept -/
def keepN (keep : List Int) (i n : Nat) : Nat := match keep[i % keep.length]? with
  | none => 0
  | some v => ((v.tmod n + n).tmod n).toNat
def cutF (keep : List Int) (i : Nat) (f : FileM) : FileM :=
  let b := f.b.take (f.safe + keepN keep i (f.b.length - f.safe + 1))
  ⟨b, b.length, true⟩
def restartL (keep : List Int) : Nat → List (Key × FileM) → List (Key × FileM)
  | _, [] => []
  | i, q :: r => if q.2.whole = true then q :: restartL keep i r
      else if q.2.ever = false ∧ (cutF keep i q.2).b = [] then restartL keep (i + 1) r
      else (q.1, cutF keep i q.2) :: restartL keep (i + 1) r
/-- how many files a restart has looked at that weren't safe -/
def restartN : List (Key × FileM) → Nat
  | [] => 0
  | q :: r => if q.2.whole = true then restartN r else restartN r + 1
def dRestart (d : DiskM) (keep : List Int) : DiskM := ⟨d.cap, restartL keep 0 d.files, -1, false⟩

structure WFD (d : DiskM) : Prop where
  up : Up d.files
  room : used d.files ≤ d.cap
  cap : d.cap ≤ 4194304
  fuse0 : -1 ≤ d.fuse
  fuse1 : d.fuse ≤ 9223372036854775807
  each : ∀ q ∈ d.files, q.2.safe ≤ q.2.b.length ∧ q.1.length ≤ 40

theorem used_get {k : Key} {f : FileM} : ∀ {l : List (Key × FileM)}, fget k l = some f → f.b.length ≤ used l
  | (y, u) :: r, h => by
    unfold fget at h
    split at h
    · injection h with h; subst h; show _ ≤ _ + used r; simp
    · have := used_get h; show _ ≤ _ + used r; omega
theorem used_fput {k : Key} {v : FileM} : ∀ {l : List (Key × FileM)}, Up l → used (fput k v l) + ((fget k l).getD FileM.none_).b.length = used l + v.b.length
  | [], _ => by simp [fput, fget, used, FileM.none_]
  | (y, u) :: r, h => by
    obtain ⟨h1, h2⟩ := up_cons.1 h
    unfold fput fget
    by_cases e : y = k
    · rw [if_pos e, if_pos e]; simp only [used, Option.getD_some]; omega
    · rw [if_neg e, if_neg e]
      by_cases hb : bytesBefore k y = true
      · rw [if_pos hb, fget_none_of (fun q hq e' => by have := h1 q hq; rw [e'] at this; rw [before_anti this] at hb; cases hb)]
        simp only [used, Option.getD_none, FileM.none_, List.length_nil]; omega
      · rw [if_neg hb]
        have := used_fput (v := v) (k := k) h2
        simp only [used]
        omega
theorem used_fdel_le (k : Key) : ∀ l : List (Key × FileM), used (fdel k l) ≤ used l
  | [] => Nat.le_refl _
  | (y, u) :: r => by
    have ih := used_fdel_le k r
    unfold fdel at ih ⊢
    rw [List.filter_cons]
    split
    · show _ + used _ ≤ _ + used r; omega
    · show _ ≤ _ + used r; omega
theorem used_fdel_fput {a b : Key} {f : FileM} {l : List (Key × FileM)} (h : Up l) (ha : fget a l = some f) (hne : a ≠ b) : used (fdel a (fput b f l)) ≤ used l := by
  have e1 : fput a FileM.none_ (fdel a (fput b f l)) = fput a FileM.none_ (fput b f l) := by
    refine up_ext (up_fput (up_fdel (up_fput h) a)) (up_fput (up_fput h)) fun k => ?_
    rw [fget_fput, fget_fput, fget_fdel]
    by_cases hk : k = a <;> simp [hk]
  have u1 := used_fput (v := FileM.none_) (k := a) (up_fdel (up_fput (v := f) (k := b) h) a)
  have u2 := used_fput (v := FileM.none_) (k := a) (up_fput (v := f) (k := b) h)
  have u3 := used_fput (v := f) (k := b) h
  rw [e1] at u1
  rw [fget_fdel, if_pos rfl] at u1
  rw [fget_fput, if_neg hne, ha] at u2
  simp only [FileM.none_, Option.getD_none, Option.getD_some, List.length_nil] at u1 u2
  omega
theorem burn_files (d : DiskM) : d.burn.files = d.files := rfl
theorem burn_cap (d : DiskM) : d.burn.cap = d.cap := rfl
theorem burn_lost (d : DiskM) : d.burn.lost = decide (d.fuse = 0) := rfl
theorem WFD.burn {d : DiskM} (h : WFD d) : WFD d.burn := by
  refine ⟨h.up, h.room, h.cap, ?_, ?_, h.each⟩ <;> (have := h.fuse0; have := h.fuse1; unfold DiskM.burn; simp only; split <;> omega)
theorem right_len {k : Key} (h : right k = true) : k.length ≤ 40 := by
  unfold right at h; simp at h; exact h.2
theorem halved_le (d : DiskM) (b : List UInt8) : (halved d b).length ≤ b.length := by
  unfold halved; split
  · rw [List.length_take]; omega
  · exact Nat.le_refl _
theorem WFD.put {d : DiskM} (h : WFD d) {k : Key} {f : FileM} (hk : k.length ≤ 40) (hs : f.safe ≤ f.b.length) (hr : used d.files + f.b.length ≤ d.cap + ((fget k d.files).getD FileM.none_).b.length) : WFD { d with files := fput k f d.files } := by
  refine ⟨up_fput h.up, ?_, h.cap, h.fuse0, h.fuse1, fun q hq => ?_⟩
  · have := used_fput (v := f) (k := k) h.up
    show used (fput k f d.files) ≤ d.cap
    omega
  · rcases mem_fput hq with rfl | hq
    · exact ⟨hs, hk⟩
    · exact h.each q hq
theorem WFD.get {d : DiskM} (h : WFD d) {k : Key} {f : FileM} (hk : fget k d.files = some f) : f.safe ≤ f.b.length ∧ k.length ≤ 40 := h.each (k, f) (fget_mem hk)
theorem WFD.append {d : DiskM} (h : WFD d) (k : Key) (b : List UInt8) : WFD (dAppend d k b).2 := by
  unfold dAppend
  split
  · exact h
  · split
    · exact h
    · rename_i hr
      split
      · exact h
      · rename_i hroom
        split
        · exact h.burn
        · have hle := halved_le d b
          have hrm := h.room
          unfold DiskM.room at hroom
          refine WFD.put h.burn (right_len (by simpa using hr)) ?_ ?_
          · cases hg : fget k d.files with
            | none => simp [FileM.none_]
            | some f => simp only [Option.getD_some, List.length_append]; have := (h.get hg).1; omega
          · simp only [burn_files, burn_cap, List.length_append]
            omega
theorem WFD.sync {d : DiskM} (h : WFD d) (k : Key) : WFD (dSync d k).2 := by
  unfold dSync
  split
  · exact h
  · split
    · exact h
    · rename_i f hg
      split
      · exact h.burn
      · refine WFD.put h.burn (h.get hg).2 (Nat.le_refl _) ?_
        have hrm := h.room
        simp only [burn_files, burn_cap, hg, Option.getD_some]
        omega
theorem WFD.rename {d : DiskM} (h : WFD d) (a b : Key) : WFD (dRename d a b).2 := by
  unfold dRename
  split
  · exact h
  · split
    · exact h
    · rename_i hab
      simp only [not_or] at hab
      split
      · exact h
      · rename_i f hg
        split
        · exact h
        · split
          · exact h.burn
          · have hb := h.burn
            refine ⟨up_fdel (up_fput h.up) a, Nat.le_trans (used_fdel_fput h.up hg hab.2) h.room, h.cap, hb.fuse0, hb.fuse1, fun q hq => ?_⟩
            rcases mem_fput (List.mem_filter.1 hq).1 with rfl | hq
            · exact ⟨(h.get hg).1, right_len (by simpa using hab.1)⟩
            · exact h.each q hq
theorem WFD.del {d : DiskM} (h : WFD d) (k : Key) : WFD { d with files := fdel k d.files } :=
  ⟨up_fdel h.up k, Nat.le_trans (used_fdel_le k _) h.room, h.cap, h.fuse0, h.fuse1, fun q hq => h.each q (List.mem_filter.1 hq).1⟩
theorem WFD.remove {d : DiskM} (h : WFD d) (k : Key) : WFD (dRemove d k).2 := by
  unfold dRemove
  split
  · exact h
  · split
    · exact h
    · split
      · exact h.burn
      · exact WFD.del h.burn k
theorem WFD.fuse {d : DiskM} (h : WFD d) (n : Int) (hn : n ≤ 9223372036854775807) : WFD (dFuse d n).2 := by
  unfold dFuse
  split
  · exact h
  · split
    · exact h
    · exact ⟨h.up, h.room, h.cap, by show -1 ≤ n; omega, hn, h.each⟩
theorem WFD.harm {d : DiskM} (h : WFD d) (k : Key) (b : List UInt8) : WFD (dHarm d k b).2 := by
  unfold dHarm
  split
  · exact h
  · split
    · exact h
    · rename_i hr
      split
      · exact h
      · rename_i hroom
        refine h.put (right_len (by simpa using hr)) (Nat.le_refl _) ?_
        have hrm := h.room
        unfold DiskM.room DiskM.len at hroom
        cases hg : fget k d.files with
        | none => rw [hg] at hroom; simp only [Option.getD_none, FileM.none_, List.length_nil]; simp only at hroom; omega
        | some f => rw [hg] at hroom; simp only [Option.getD_some]; simp only at hroom; omega
theorem WFD.lose {d : DiskM} (h : WFD d) (k : Key) : WFD (dLose d k).2 := by
  unfold dLose
  split
  · exact h
  · split
    · exact h
    · exact h.del k
theorem keepN_lt (keep : List Int) (i n : Nat) (hn : 0 < n) : keepN keep i n < n := by
  unfold keepN
  split
  · exact hn
  · rename_i v _
    have h1 : (v.tmod n + n).tmod n < n := Int.tmod_lt_of_pos _ (by omega)
    have h2 : 0 ≤ (v.tmod n + n).tmod n := Int.tmod_nonneg _ (by have := Int.lt_tmod_of_pos v (show (0 : Int) < n by omega); omega)
    omega
theorem cutF_len (keep : List Int) (i : Nat) {f : FileM} (h : f.safe ≤ f.b.length) : (cutF keep i f).b.length = f.safe + keepN keep i (f.b.length - f.safe + 1) := by
  have := keepN_lt keep i (f.b.length - f.safe + 1) (by omega)
  show (f.b.take _).length = _
  rw [List.length_take]
  omega
theorem cutF_le (keep : List Int) (i : Nat) (f : FileM) : (cutF keep i f).b.length ≤ f.b.length := by
  show (f.b.take _).length ≤ _
  rw [List.length_take]
  omega
theorem restartL_mem (keep : List Int) : ∀ (l : List (Key × FileM)) (i : Nat) (q : Key × FileM), q ∈ restartL keep i l → (∃ f, (q.1, f) ∈ l) ∧ q.2.whole = true ∧ (∃ i f, (q.1, f) ∈ l ∧ (q.2 = f ∨ q.2 = cutF keep i f))
  | [], _, _, h => by cases h
  | (y, u) :: r, i, q, h => by
    have lift : ∀ i, q ∈ restartL keep i r → (∃ f, (q.1, f) ∈ (y, u) :: r) ∧ q.2.whole = true ∧ (∃ i f, (q.1, f) ∈ (y, u) :: r ∧ (q.2 = f ∨ q.2 = cutF keep i f)) := fun i h => by
      obtain ⟨⟨f, hf⟩, h2, i', f', h3, h4⟩ := restartL_mem keep r i q h
      exact ⟨⟨f, List.mem_cons_of_mem _ hf⟩, h2, i', f', List.mem_cons_of_mem _ h3, h4⟩
    unfold restartL at h
    split at h
    · rename_i hw
      rcases List.mem_cons.1 h with rfl | h
      · exact ⟨⟨u, List.mem_cons_self⟩, hw, 0, u, List.mem_cons_self, .inl rfl⟩
      · exact lift _ h
    · split at h
      · exact lift _ h
      · rcases List.mem_cons.1 h with rfl | h
        · exact ⟨⟨u, List.mem_cons_self⟩, by simp [FileM.whole, cutF], i, u, List.mem_cons_self, .inr rfl⟩
        · exact lift _ h
theorem up_restartL (keep : List Int) : ∀ (l : List (Key × FileM)) (i : Nat), Up l → Up (restartL keep i l)
  | [], _, _ => up_nil
  | (y, u) :: r, i, h => by
    obtain ⟨h1, h2⟩ := up_cons.1 h
    have hh : ∀ j v, Up ((y, v) :: restartL keep j r) := fun j v => up_cons.2 ⟨fun q hq => by
      obtain ⟨⟨f, hf⟩, _⟩ := restartL_mem keep r j q hq
      exact h1 (q.1, f) hf, up_restartL keep r j h2⟩
    unfold restartL
    split
    · exact hh _ _
    · split
      · exact up_restartL keep r _ h2
      · exact hh _ _
theorem used_restartL (keep : List Int) : ∀ (l : List (Key × FileM)) (i : Nat), used (restartL keep i l) ≤ used l
  | [], _ => Nat.le_refl _
  | (y, u) :: r, i => by
    unfold restartL
    split
    · have := used_restartL keep r i; show _ + _ ≤ _ + used r; simp only at *; omega
    · split
      · have := used_restartL keep r (i + 1); show _ ≤ _ + used r; simp only at *; omega
      · have := used_restartL keep r (i + 1); have := cutF_le keep i u; show _ + _ ≤ _ + used r; simp only at *; omega
theorem length_restartL (keep : List Int) : ∀ (l : List (Key × FileM)) (i : Nat), (restartL keep i l).length ≤ l.length
  | [], _ => Nat.le_refl _
  | (y, u) :: r, i => by
    unfold restartL
    have h1 := length_restartL keep r i
    have h2 := length_restartL keep r (i + 1)
    split
    · simp only [List.length_cons]; omega
    · split <;> simp only [List.length_cons] <;> omega
theorem WFD.restart {d : DiskM} (h : WFD d) (keep : List Int) : WFD (dRestart d keep) := by
  refine ⟨up_restartL keep _ _ h.up, Nat.le_trans (used_restartL keep _ _) h.room, h.cap, by show (-1 : Int) ≤ -1; omega, by show (-1 : Int) ≤ _; omega, fun q hq => ?_⟩
  obtain ⟨_, hw, i, f, hf, he⟩ := restartL_mem keep _ _ q hq
  have he2 := h.each _ hf
  refine ⟨?_, he2.2⟩
  rcases he with e | e
  · rw [e]; exact he2.1
  · rw [e]; exact Nat.le_refl _
end Go.Proofs.Ytplbclbeccoegaa
