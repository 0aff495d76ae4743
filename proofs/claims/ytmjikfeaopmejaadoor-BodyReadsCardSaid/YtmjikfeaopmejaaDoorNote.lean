/-
  Notes: what they are; walks: which are formed, by both sides.
-/
import Derived.Test.YtmjikfeaopmejaaDoorMsg
namespace Go.Proofs.YtmjikfeaopmejaaDoor
open Go.RowKit
set_option linter.unusedSimpArgs false
set_option linter.unusedVariables false
section
variable {P : Program} {Q : Exit → Act → World → Prop} {a : Act} {w : World} {n : Nat} {Γ : Env} {l rest : List Oper} {o : Oper} {t : Nat} {b : Bool}
/-- a guarded call that answers with some text and makes memory alone -/
theorem wl_gcalls {gi gt : Nat} {f : FuncId} {args : Array Value} {R : ByteArray → Prop} (q : Bool) (hA : At n Γ a) (hg : o.guard = some (gi, b)) (hgd : (l[gi]?).bind (·.dst) = some gt) (hl : look Γ gt = some (.bool q)) (hd : o.dst = some t) (ht : t < n)
    (hrun : q = b → ∀ ev, EvIn Γ ev → (execOp ev o).run P w = .ok (.enter f args) w) (hc : q = b → Calls P f args w fun e w' => ∃ s, e = .returned (.string s) ∧ R s ∧ Below w.heap.size w w')
    (hk : ∀ (s : ByteArray) a' w', (q = b → R s) → Below w.heap.size w w' → At n ((t, gv q b (.string s)) :: Γ) a' → wpList P l.toArray Q rest a' w') : wpList P l.toArray Q (o :: rest) a w := by
  refine wl_gcall q hA hg hgd hl hd ht hrun hc (fun v w' => (∃ s, v = .string s ∧ (q = b → R s) ∧ Below w.heap.size w w') ∨ (q ≠ b ∧ Below w.heap.size w w')) (fun _ e w' ⟨s, h1, h2, h3⟩ => ⟨_, h1, .inl ⟨s, rfl, fun _ => h2, h3⟩⟩) (fun h => .inr ⟨h, Below.refl _ _⟩) ?_
  rintro v a' w' (⟨s, rfl, h2, h3⟩ | ⟨h2, h3⟩) hA'
  · exact hk s a' w' h2 h3 hA'
  · refine hk ⟨#[]⟩ a' w' (fun e => absurd e h2) h3 ?_
    have e : gv q b v = gv q b (.string ⟨#[]⟩) := by
      have : (q == b) = false := by simpa using h2
      unfold gv gw
      rw [this]
      rfl
    rw [← e]
    exact hA'
end
structure NoteV where
  kind : Int
  ep : Nat
  nm : ByteArray
  m : MsgV
def noteC (k : Int) (e : Nat) (nm : ByteArray) (m : MsgV) : Array Value := #[.int .i64 k, .int .u32 (e : Nat), .string nm, .int .u32 (m.uid : Nat), .int .i64 m.date, .int .i64 m.flags, .slice m.a m.b.length m.c]
def bareV (d f : Int) (n : Nat) : Bool := d == 0 && f == 0 && (n : Int) == 0
def fullV (m : MsgV) : Bool := decide (1 ≤ m.uid) && (fitsDF m.date m.flags && decide (m.b.length ≤ 20000))
/-- may a note be? -/
def formedV (k : Int) (e : Nat) (nm : ByteArray) (m : MsgV) : Bool := decide (1 ≤ e) && (bif k == 1 then nameIs nm && bareV m.date m.flags m.b.length && m.uid == 0 else bif k == 2 then nameIs nm && fullV m else k == 3 && nm.toList.isEmpty && bareV m.date m.flags m.b.length && decide (1 ≤ m.uid))
theorem le1 (u : Nat) : decide ((1 : Int) ≤ (u : Int)) = decide (1 ≤ u) := by rw [Bool.eq_iff_iff]; simp; omega
theorem eq0 (u : Nat) : ((u : Int) == 0) = (u == 0) := by rw [Bool.eq_iff_iff]; simp
theorem le20000 (n : Nat) : decide ((n : Int) ≤ 20000) = decide (n ≤ 20000) := by rw [Bool.eq_iff_iff]; simp; omega
theorem formed_0 {k : Int} {e : Nat} (nm : ByteArray) (m : MsgV) (h : decide ((e : Int) < 1) = true) : formedV k e nm m = false := by
  have : ¬ 1 ≤ e := by simp at h; omega
  unfold formedV
  simp [this]
theorem formed_1 {k : Int} {e : Nat} (nm : ByteArray) (m : MsgV) (h : decide ((e : Int) < 1) = false) (h1 : (k == 1) = true) : formedV k e nm m = (nameIs nm && bareV m.date m.flags m.b.length && (m.uid : Int) == 0) := by
  have : 1 ≤ e := by simp at h; omega
  unfold formedV
  rw [h1, eq0]
  simp [this]
theorem formed_2 {k : Int} {e : Nat} (nm : ByteArray) (m : MsgV) (h : decide ((e : Int) < 1) = false) (h1 : (k == 1) = false) (h2 : (k == 2) = true) : formedV k e nm m = (nameIs nm && fullV m) := by
  have : 1 ≤ e := by simp at h; omega
  unfold formedV
  rw [h1, h2]
  simp [this]
theorem formed_3 {k : Int} {e : Nat} (nm : ByteArray) (m : MsgV) (h : decide ((e : Int) < 1) = false) (h1 : (k == 1) = false) (h2 : (k == 2) = false) : formedV k e nm m = (k == 3 && nm.toList.isEmpty && bareV m.date m.flags m.b.length && decide ((1 : Int) ≤ (m.uid : Int))) := by
  have : 1 ≤ e := by simp at h; omega
  unfold formedV
  rw [h1, h2, le1]
  simp [this]
theorem bNamed_any (s : ByteArray) (hs : s.size ≤ 9223372036854775807) (w : World) (hm : MaxCell w) :
    Calls Tryd.prog 27 #[.string s] w fun ev w' => ev = .returned (.bool (nameIs s)) ∧ Below w.heap.size w w' := by
  obtain ⟨mx, hmx⟩ := hm
  refine calls_at 16 Tryd.func27 rfl rfl (Nat.le_of_ble_eq_true rfl) ?_
  intro a hA
  simp only [argsE, keepE, lookS, Nat.reduceBEq, cond_true, cond_false, Nat.reduceAdd, gv_tt, gv_ff, Bool.true_and, Bool.false_and, Bool.true_or, Bool.false_or] at hA
  refine wp_seq ?_
  refine wp_region_lit ?_
  refine wl_op hA rfl rfl (by decide) (fun ev h => by simp [go_sem, h.c]; try first | exact ⟨rfl, rfl⟩ | rfl) fun a1 hA1 => ?_
  refine wl_nil ?_
  refine n_then ?_
  have hA2 := hA1.keep [0]
  simp only [argsE, keepE, lookS, Nat.reduceBEq, cond_true, cond_false, Nat.reduceAdd, gv_tt, gv_ff, Bool.true_and, Bool.false_and, Bool.true_or, Bool.false_or] at hA2
  clear hA hA1
  refine wp_seq ?_
  refine wp_region_lit ?_
  refine wl_op hA2 rfl rfl (by decide) (fun ev h => by simp [go_sem, h.get 0 rfl]; try first | exact ⟨rfl, rfl⟩ | rfl) fun a3 hA3 => ?_
  -- stop call slot 7
  refine wl_call hA3 rfl rfl (by decide) (fun ev h => by simp [go_sem, h.get 6 rfl, h.f]; try first | exact ⟨rfl, rfl⟩ | rfl) (norm_all s mx _ hs hmx) ?_
  rintro e w1 ⟨rfl, hb⟩
  refine ⟨_, rfl, fun a4 hA4 => ?_⟩
  refine wl_op hA4 rfl rfl (by decide) (fun ev h => by simp [go_sem, h.get 7 rfl]; try first | exact ⟨rfl, rfl⟩ | rfl) fun a5 hA5 => ?_
  refine wl_op hA5 rfl rfl (by decide) (fun ev h => by simp [go_sem, h.get 5 rfl]; try first | exact ⟨rfl, rfl⟩ | rfl) fun a6 hA6 => ?_
  refine wl_op hA6 rfl rfl (by decide) (fun ev h => by simp [go_sem, h.get 5 rfl]; try first | exact ⟨rfl, rfl⟩ | rfl) fun a7 hA7 => ?_
  refine wl_op hA7 rfl rfl (by decide) (fun ev h => by simp [go_sem, h.get 8 rfl]; try first | exact ⟨rfl, rfl⟩ | rfl) fun a8 hA8 => ?_
  refine wl_op hA8 rfl rfl (by decide) (fun ev h => by simp [go_sem, h.get 9 rfl]; try first | exact ⟨rfl, rfl⟩ | rfl) fun a9 hA9 => ?_
  refine wl_nil ?_
  refine n_then ?_
  have hA10 := hA9.keep [0, 3, 4]
  simp only [argsE, keepE, lookS, Nat.reduceBEq, cond_true, cond_false, Nat.reduceAdd, gv_tt, gv_ff, Bool.true_and, Bool.false_and, Bool.true_or, Bool.false_or] at hA10
  clear hA2 hA3 hA4 hA5 hA6 hA7 hA8 hA9 a1 a3 a4 a5 a6 a7 a8
  refine wp_seq ?_
  refine wp_region_lit ?_
  refine wl_op hA10 rfl rfl (by decide) (fun ev h => by simp [go_sem, h.get 4 rfl]; try first | exact ⟨rfl, rfl⟩ | rfl) fun a11 hA11 => ?_
  refine wl_op hA11 rfl rfl (by decide) (fun ev h => by simp [go_sem, h.get 10 rfl]; try first | exact ⟨rfl, rfl⟩ | rfl) fun a12 hA12 => ?_
  refine wl_guard _ hA12 rfl rfl rfl rfl (by decide) (fun hq ev h => by simp [go_sem, (h.get 3 rfl)]; try first | exact ⟨rfl, rfl⟩ | rfl) fun a13 hA13 => ?_
  refine wl_guard _ hA13 rfl rfl rfl rfl (by decide) (fun hq ev h => by simp [go_sem, (h.get 0 rfl)]; try first | exact ⟨rfl, rfl⟩ | rfl) fun a14 hA14 => ?_
  refine wl_guard _ hA14 rfl rfl rfl rfl (by decide) (fun hq ev h => by simp [go_sem, ((h.get 12 rfl).trans (gw_t (beq_t hq))), ((h.get 13 rfl).trans (gw_t (beq_t hq)))]; try first | exact ⟨rfl, rfl⟩ | rfl) fun a15 hA15 => ?_
  refine wl_op hA15 rfl rfl (by decide) (fun ev h => by first | exact pick_and rfl (h.get 11 rfl) (h.get 14 rfl) (h.c _) | exact pick_or rfl (h.get 11 rfl) (h.get 14 rfl) (h.c _) | (simp [go_sem, h.c, h.get 11 rfl, h.get 14 rfl, gv_or, gv_and]; try first | exact ⟨rfl, rfl⟩ | rfl)) fun a16 hA16 => ?_
  refine wl_op hA16 rfl rfl (by decide) (fun ev h => by simp [go_sem, h.get 15 rfl]; try first | exact ⟨rfl, rfl⟩ | rfl) fun a17 hA17 => ?_
  refine wl_nil ?_
  refine n_then ?_
  have hA18 := hA17.keep [2]
  simp only [argsE, keepE, lookS, Nat.reduceBEq, cond_true, cond_false, Nat.reduceAdd, gv_tt, gv_ff, Bool.true_and, Bool.false_and, Bool.true_or, Bool.false_or] at hA18
  clear hA10 hA11 hA12 hA13 hA14 hA15 hA16 hA17 a9 a11 a12 a13 a14 a15 a16
  refine wp_ret ?_
  -- ret
  refine ret_1 hA18 2 rfl rfl ?_
  exact ⟨ret_bool (by unfold nameIs; rfl), hb⟩
theorem bare_any (u d f : Int) (A : Option Addr) (n c : Nat) (w : World) :
    Calls Tryd.prog 28 #[.agg #[.int .u32 u, .int .i64 d, .int .i64 f, .slice A n c]] w fun ev w' => ev = .returned (.bool (bareV d f n)) ∧ Below w.heap.size w w' := by
  refine calls_at 17 Tryd.func28 rfl rfl (Nat.le_of_ble_eq_true rfl) ?_
  intro a hA
  simp only [argsE, keepE, lookS, Nat.reduceBEq, cond_true, cond_false, Nat.reduceAdd, gv_tt, gv_ff, Bool.true_and, Bool.false_and, Bool.true_or, Bool.false_or] at hA
  refine wp_seq ?_
  refine wp_region_lit ?_
  -- stop box slot 1
  refine wl_new hA rfl rfl (by decide) (fun ev h => by simp [go_sem, h.get 0 rfl]; try first | exact ⟨rfl, rfl⟩ | rfl) fun w1 a19 (K : Blk _ _ _ _) hz hb hA19 => ?_
  refine wl_op hA19 rfl rfl (by decide) (fun ev h => by simp [go_sem, h.c, K.cell]; try first | exact ⟨rfl, rfl⟩ | rfl) fun a20 hA20 => ?_
  refine wl_nil ?_
  refine n_then ?_
  have hA21 := hA20.keep [1]
  simp only [argsE, keepE, lookS, Nat.reduceBEq, cond_true, cond_false, Nat.reduceAdd, gv_tt, gv_ff, Bool.true_and, Bool.false_and, Bool.true_or, Bool.false_or] at hA21
  clear hA hA19 hA20 a19
  refine wp_seq ?_
  refine wp_region_lit ?_
  refine wl_op hA21 rfl rfl (by decide) (fun ev h => by simp [go_sem, h.get 1 rfl, K.cell]; try first | exact ⟨rfl, rfl⟩ | rfl) fun a22 hA22 => ?_
  refine wl_op hA22 rfl rfl (by decide) (fun ev h => by simp [go_sem, h.get 3 rfl, K.cell]; try first | exact ⟨rfl, rfl⟩ | rfl) fun a23 hA23 => ?_
  refine wl_op hA23 rfl rfl (by decide) (fun ev h => by simp [go_sem, h.c, h.get 4 rfl, K.cell]; try first | exact ⟨rfl, rfl⟩ | rfl) fun a24 hA24 => ?_
  refine wl_op hA24 rfl rfl (by decide) (fun ev h => by simp [go_sem, h.get 5 rfl, K.cell]; try first | exact ⟨rfl, rfl⟩ | rfl) fun a25 hA25 => ?_
  refine wl_guard _ hA25 rfl rfl rfl rfl (by decide) (fun hq ev h => by simp [go_sem, (h.get 1 rfl), K.cell]; try first | exact ⟨rfl, rfl⟩ | rfl) fun a26 hA26 => ?_
  refine wl_guard _ hA26 rfl rfl rfl rfl (by decide) (fun hq ev h => by simp [go_sem, ((h.get 7 rfl).trans (gw_t (beq_t hq))), K.cell]; try first | exact ⟨rfl, rfl⟩ | rfl) fun a27 hA27 => ?_
  refine wl_guard _ hA27 rfl rfl rfl rfl (by decide) (fun hq ev h => by simp [go_sem, h.c, ((h.get 8 rfl).trans (gw_t (beq_t hq))), K.cell]; try first | exact ⟨rfl, rfl⟩ | rfl) fun a28 hA28 => ?_
  refine wl_op hA28 rfl rfl (by decide) (fun ev h => by first | exact pick_and rfl (h.get 6 rfl) (h.get 9 rfl) (h.c _) | exact pick_or rfl (h.get 6 rfl) (h.get 9 rfl) (h.c _) | (simp [go_sem, h.c, h.get 6 rfl, h.get 9 rfl, K.cell, gv_or, gv_and]; try first | exact ⟨rfl, rfl⟩ | rfl)) fun a29 hA29 => ?_
  refine wl_op hA29 rfl rfl (by decide) (fun ev h => by simp [go_sem, h.get 10 rfl, K.cell]; try first | exact ⟨rfl, rfl⟩ | rfl) fun a30 hA30 => ?_
  refine wl_guard _ hA30 rfl rfl rfl rfl (by decide) (fun hq ev h => by simp [go_sem, (h.get 1 rfl), K.cell]; try first | exact ⟨rfl, rfl⟩ | rfl) fun a31 hA31 => ?_
  refine wl_guard _ hA31 rfl rfl rfl rfl (by decide) (fun hq ev h => by simp [go_sem, ((h.get 12 rfl).trans (gw_t (beq_t hq))), K.cell]; try first | exact ⟨rfl, rfl⟩ | rfl) fun a32 hA32 => ?_
  refine wl_guard _ hA32 rfl rfl rfl rfl (by decide) (fun hq ev h => by simp [go_sem, ((h.get 13 rfl).trans (gw_t (beq_t hq))), K.cell]; try first | exact ⟨rfl, rfl⟩ | rfl) fun a33 hA33 => ?_
  refine wl_guard _ hA33 rfl rfl rfl rfl (by decide) (fun hq ev h => by simp [go_sem, h.c, ((h.get 14 rfl).trans (gw_t (beq_t hq))), K.cell]; try first | exact ⟨rfl, rfl⟩ | rfl) fun a34 hA34 => ?_
  refine wl_op hA34 rfl rfl (by decide) (fun ev h => by first | exact pick_and rfl (h.get 11 rfl) (h.get 15 rfl) (h.c _) | exact pick_or rfl (h.get 11 rfl) (h.get 15 rfl) (h.c _) | (simp [go_sem, h.c, h.get 11 rfl, h.get 15 rfl, K.cell, gv_or, gv_and]; try first | exact ⟨rfl, rfl⟩ | rfl)) fun a35 hA35 => ?_
  refine wl_op hA35 rfl rfl (by decide) (fun ev h => by simp [go_sem, h.get 16 rfl, K.cell]; try first | exact ⟨rfl, rfl⟩ | rfl) fun a36 hA36 => ?_
  refine wl_nil ?_
  refine n_then ?_
  have hA37 := hA36.keep [2]
  simp only [argsE, keepE, lookS, Nat.reduceBEq, cond_true, cond_false, Nat.reduceAdd, gv_tt, gv_ff, Bool.true_and, Bool.false_and, Bool.true_or, Bool.false_or] at hA37
  clear hA21 hA22 hA23 hA24 hA25 hA26 hA27 hA28 hA29 hA30 hA31 hA32 hA33 hA34 hA35 hA36 a20 a22 a23 a24 a25 a26 a27 a28 a29 a30 a31 a32 a33 a34 a35
  refine wp_ret ?_
  -- ret
  refine ret_1 hA37 2 rfl rfl ?_
  exact ⟨rfl, hb⟩
theorem full_eq (m : MsgV) (s : ByteArray) (hs : decide ((1 : Int) ≤ (m.uid : Int)) = true → s.toList.isEmpty = !dateOk m.date) : (decide ((1 : Int) ≤ (m.uid : Int)) && !s.toList.isEmpty && decide (0 ≤ m.flags) && decide (m.flags ≤ 31) && decide ((m.b.length : Int) ≤ 20000)) = fullV m := by
  unfold fullV fitsDF
  rw [le20000]
  rw [le1] at *
  cases hu : decide (1 ≤ m.uid) with
  | false => simp
  | true => rw [hs hu]; simp [Bool.and_assoc]
theorem rightMsg_any (m : MsgV) (w : World) (htab : Lib.TabIs Tryd.prog w "internal/strconv.uint64pow10" .u64 Lib.pow10Tab) :
    Calls Tryd.prog 29 #[.agg #[.int .u32 (m.uid : Nat), .int .i64 m.date, .int .i64 m.flags, .slice m.a m.b.length m.c]] w fun ev w' => ev = .returned (.bool (fullV m)) ∧ Below w.heap.size w w' := by
  have Ht := Lib.tabBelow_of_tabIs htab
  refine calls_at 28 Tryd.func29 rfl rfl (Nat.le_of_ble_eq_true rfl) ?_
  intro a hA
  simp only [argsE, keepE, lookS, Nat.reduceBEq, cond_true, cond_false, Nat.reduceAdd, gv_tt, gv_ff, Bool.true_and, Bool.false_and, Bool.true_or, Bool.false_or] at hA
  refine wp_seq ?_
  refine wp_region_lit ?_
  -- stop box slot 1
  refine wl_new hA rfl rfl (by decide) (fun ev h => by simp [go_sem, h.get 0 rfl]; try first | exact ⟨rfl, rfl⟩ | rfl) fun w1 a38 (K : Blk _ _ _ _) hz hb hA38 => ?_
  refine wl_op hA38 rfl rfl (by decide) (fun ev h => by simp [go_sem, h.c, K.cell]; try first | exact ⟨rfl, rfl⟩ | rfl) fun a39 hA39 => ?_
  refine wl_nil ?_
  refine n_then ?_
  have hA40 := hA39.keep [1]
  simp only [argsE, keepE, lookS, Nat.reduceBEq, cond_true, cond_false, Nat.reduceAdd, gv_tt, gv_ff, Bool.true_and, Bool.false_and, Bool.true_or, Bool.false_or] at hA40
  clear hA hA38 hA39 a38
  refine wp_seq ?_
  refine wp_region_lit ?_
  refine wl_op hA40 rfl rfl (by decide) (fun ev h => by simp [go_sem, h.get 1 rfl, K.cell]; try first | exact ⟨rfl, rfl⟩ | rfl) fun a41 hA41 => ?_
  refine wl_op hA41 rfl rfl (by decide) (fun ev h => by simp [go_sem, h.get 3 rfl, K.cell]; try first | exact ⟨rfl, rfl⟩ | rfl) fun a42 hA42 => ?_
  refine wl_op hA42 rfl rfl (by decide) (fun ev h => by simp [go_sem, h.c, h.get 4 rfl, K.cell]; try first | exact ⟨rfl, rfl⟩ | rfl) fun a43 hA43 => ?_
  refine wl_op hA43 rfl rfl (by decide) (fun ev h => by simp [go_sem, h.get 5 rfl, K.cell]; try first | exact ⟨rfl, rfl⟩ | rfl) fun a44 hA44 => ?_
  refine wl_guard _ hA44 rfl rfl rfl rfl (by decide) (fun hq ev h => by simp [go_sem, (h.get 1 rfl), K.cell]; try first | exact ⟨rfl, rfl⟩ | rfl) fun a45 hA45 => ?_
  refine wl_guard _ hA45 rfl rfl rfl rfl (by decide) (fun hq ev h => by simp [go_sem, ((h.get 7 rfl).trans (gw_t (beq_t hq))), K.cell]; try first | exact ⟨rfl, rfl⟩ | rfl) fun a46 hA46 => ?_
  -- stop call slot 9
  refine wl_gcalls _ hA46 rfl rfl rfl rfl (by decide) (fun hq ev h => by simp [go_sem, ((h.get 8 rfl).trans (gw_t (beq_t hq))), K.cell, h.f]; try first | exact ⟨rfl, rfl⟩ | rfl) (fun hq => print_some m.date _ (Ht _ hb)) fun s a47 w2 hs hb2 hA47 => ?_
  replace K := K.below hb2 K.lt
  refine wl_guard _ hA47 rfl rfl rfl rfl (by decide) (fun hq ev h => by simp [go_sem, h.c, ((h.get 9 rfl).trans (gw_t (beq_t hq))), K.cell]; try first | exact ⟨rfl, rfl⟩ | rfl) fun a48 hA48 => ?_
  refine wl_op hA48 rfl rfl (by decide) (fun ev h => by first | exact pick_and rfl (h.get 6 rfl) (h.get 10 rfl) (h.c _) | exact pick_or rfl (h.get 6 rfl) (h.get 10 rfl) (h.c _) | (simp [go_sem, h.c, h.get 6 rfl, h.get 10 rfl, K.cell, gv_or, gv_and]; try first | exact ⟨rfl, rfl⟩ | rfl)) fun a49 hA49 => ?_
  refine wl_op hA49 rfl rfl (by decide) (fun ev h => by simp [go_sem, h.get 11 rfl, K.cell]; try first | exact ⟨rfl, rfl⟩ | rfl) fun a50 hA50 => ?_
  refine wl_guard _ hA50 rfl rfl rfl rfl (by decide) (fun hq ev h => by simp [go_sem, (h.get 1 rfl), K.cell]; try first | exact ⟨rfl, rfl⟩ | rfl) fun a51 hA51 => ?_
  refine wl_guard _ hA51 rfl rfl rfl rfl (by decide) (fun hq ev h => by simp [go_sem, ((h.get 13 rfl).trans (gw_t (beq_t hq))), K.cell]; try first | exact ⟨rfl, rfl⟩ | rfl) fun a52 hA52 => ?_
  refine wl_guard _ hA52 rfl rfl rfl rfl (by decide) (fun hq ev h => by simp [go_sem, h.c, ((h.get 14 rfl).trans (gw_t (beq_t hq))), K.cell]; try first | exact ⟨rfl, rfl⟩ | rfl) fun a53 hA53 => ?_
  refine wl_op hA53 rfl rfl (by decide) (fun ev h => by first | exact pick_and rfl (h.get 12 rfl) (h.get 15 rfl) (h.c _) | exact pick_or rfl (h.get 12 rfl) (h.get 15 rfl) (h.c _) | (simp [go_sem, h.c, h.get 12 rfl, h.get 15 rfl, K.cell, gv_or, gv_and]; try first | exact ⟨rfl, rfl⟩ | rfl)) fun a54 hA54 => ?_
  refine wl_op hA54 rfl rfl (by decide) (fun ev h => by simp [go_sem, h.get 16 rfl, K.cell]; try first | exact ⟨rfl, rfl⟩ | rfl) fun a55 hA55 => ?_
  refine wl_guard _ hA55 rfl rfl rfl rfl (by decide) (fun hq ev h => by simp [go_sem, (h.get 1 rfl), K.cell]; try first | exact ⟨rfl, rfl⟩ | rfl) fun a56 hA56 => ?_
  refine wl_guard _ hA56 rfl rfl rfl rfl (by decide) (fun hq ev h => by simp [go_sem, ((h.get 18 rfl).trans (gw_t (beq_t hq))), K.cell]; try first | exact ⟨rfl, rfl⟩ | rfl) fun a57 hA57 => ?_
  refine wl_guard _ hA57 rfl rfl rfl rfl (by decide) (fun hq ev h => by simp [go_sem, h.c, ((h.get 19 rfl).trans (gw_t (beq_t hq))), K.cell]; try first | exact ⟨rfl, rfl⟩ | rfl) fun a58 hA58 => ?_
  refine wl_op hA58 rfl rfl (by decide) (fun ev h => by first | exact pick_and rfl (h.get 17 rfl) (h.get 20 rfl) (h.c _) | exact pick_or rfl (h.get 17 rfl) (h.get 20 rfl) (h.c _) | (simp [go_sem, h.c, h.get 17 rfl, h.get 20 rfl, K.cell, gv_or, gv_and]; try first | exact ⟨rfl, rfl⟩ | rfl)) fun a59 hA59 => ?_
  refine wl_op hA59 rfl rfl (by decide) (fun ev h => by simp [go_sem, h.get 21 rfl, K.cell]; try first | exact ⟨rfl, rfl⟩ | rfl) fun a60 hA60 => ?_
  refine wl_guard _ hA60 rfl rfl rfl rfl (by decide) (fun hq ev h => by simp [go_sem, (h.get 1 rfl), K.cell]; try first | exact ⟨rfl, rfl⟩ | rfl) fun a61 hA61 => ?_
  refine wl_guard _ hA61 rfl rfl rfl rfl (by decide) (fun hq ev h => by simp [go_sem, ((h.get 23 rfl).trans (gw_t (beq_t hq))), K.cell]; try first | exact ⟨rfl, rfl⟩ | rfl) fun a62 hA62 => ?_
  refine wl_guard _ hA62 rfl rfl rfl rfl (by decide) (fun hq ev h => by simp [go_sem, ((h.get 24 rfl).trans (gw_t (beq_t hq))), K.cell]; try first | exact ⟨rfl, rfl⟩ | rfl) fun a63 hA63 => ?_
  refine wl_guard _ hA63 rfl rfl rfl rfl (by decide) (fun hq ev h => by simp [go_sem, h.c, ((h.get 25 rfl).trans (gw_t (beq_t hq))), K.cell]; try first | exact ⟨rfl, rfl⟩ | rfl) fun a64 hA64 => ?_
  refine wl_op hA64 rfl rfl (by decide) (fun ev h => by first | exact pick_and rfl (h.get 22 rfl) (h.get 26 rfl) (h.c _) | exact pick_or rfl (h.get 22 rfl) (h.get 26 rfl) (h.c _) | (simp [go_sem, h.c, h.get 22 rfl, h.get 26 rfl, K.cell, gv_or, gv_and]; try first | exact ⟨rfl, rfl⟩ | rfl)) fun a65 hA65 => ?_
  refine wl_op hA65 rfl rfl (by decide) (fun ev h => by simp [go_sem, h.get 27 rfl, K.cell]; try first | exact ⟨rfl, rfl⟩ | rfl) fun a66 hA66 => ?_
  refine wl_nil ?_
  refine n_then ?_
  have hA67 := hA66.keep [2]
  simp only [argsE, keepE, lookS, Nat.reduceBEq, cond_true, cond_false, Nat.reduceAdd, gv_tt, gv_ff, Bool.true_and, Bool.false_and, Bool.true_or, Bool.false_or] at hA67
  clear hA40 hA41 hA42 hA43 hA44 hA45 hA46 hA47 hA48 hA49 hA50 hA51 hA52 hA53 hA54 hA55 hA56 hA57 hA58 hA59 hA60 hA61 hA62 hA63 hA64 hA65 hA66 a39 a41 a42 a43 a44 a45 a46 a47 a48 a49 a50 a51 a52 a53 a54 a55 a56 a57 a58 a59 a60 a61 a62 a63 a64 a65
  refine wp_ret ?_
  -- ret
  refine ret_1 hA67 2 rfl rfl ?_
  exact ⟨ret_bool (full_eq m s hs), hb.trans (hb2.mono hb.size)⟩
theorem refFits_any (u d f : Int) (A : Option Addr) (n c : Nat) (w : World) :
    Calls Tryd.prog 18 #[.agg #[.int .u32 u, .int .i64 d, .int .i64 f, .slice A n c]] w fun e w' => e = .returned (.bool (fitsDF d f && decide (n ≤ 20000))) ∧ Below w.heap.size w w' := by
  refine calls_at 27 Tryd.func18 rfl rfl (Nat.le_of_ble_eq_true rfl) ?_
  intro a hA
  simp only [argsE, keepE, lookS, Nat.reduceBEq, cond_true, cond_false, Nat.reduceAdd, gv_tt, gv_ff, Bool.true_and, Bool.false_and, Bool.true_or, Bool.false_or] at hA
  refine wp_seq ?_
  refine wp_region_lit ?_
  -- stop box slot 1
  refine wl_new hA rfl rfl (by decide) (fun ev h => by simp [go_sem, h.get 0 rfl]; try first | exact ⟨rfl, rfl⟩ | rfl) fun w1 a68 (K : Blk _ _ _ _) hz hb hA68 => ?_
  refine wl_op hA68 rfl rfl (by decide) (fun ev h => by simp [go_sem, h.c, K.cell]; try first | exact ⟨rfl, rfl⟩ | rfl) fun a69 hA69 => ?_
  refine wl_nil ?_
  refine n_then ?_
  have hA70 := hA69.keep [1]
  simp only [argsE, keepE, lookS, Nat.reduceBEq, cond_true, cond_false, Nat.reduceAdd, gv_tt, gv_ff, Bool.true_and, Bool.false_and, Bool.true_or, Bool.false_or] at hA70
  clear hA hA68 hA69 a68
  refine wp_seq ?_
  refine wp_region_lit ?_
  refine wl_op hA70 rfl rfl (by decide) (fun ev h => by simp [go_sem, h.get 1 rfl, K.cell]; try first | exact ⟨rfl, rfl⟩ | rfl) fun a71 hA71 => ?_
  refine wl_op hA71 rfl rfl (by decide) (fun ev h => by simp [go_sem, h.get 3 rfl, K.cell]; try first | exact ⟨rfl, rfl⟩ | rfl) fun a72 hA72 => ?_
  refine wl_op hA72 rfl rfl (by decide) (fun ev h => by simp [go_sem, h.c, h.get 4 rfl, K.cell]; try first | exact ⟨rfl, rfl⟩ | rfl) fun a73 hA73 => ?_
  refine wl_op hA73 rfl rfl (by decide) (fun ev h => by simp [go_sem, h.get 5 rfl, K.cell]; try first | exact ⟨rfl, rfl⟩ | rfl) fun a74 hA74 => ?_
  refine wl_guard _ hA74 rfl rfl rfl rfl (by decide) (fun hq ev h => by simp [go_sem, (h.get 1 rfl), K.cell]; try first | exact ⟨rfl, rfl⟩ | rfl) fun a75 hA75 => ?_
  refine wl_guard _ hA75 rfl rfl rfl rfl (by decide) (fun hq ev h => by simp [go_sem, ((h.get 7 rfl).trans (gw_t (beq_t hq))), K.cell]; try first | exact ⟨rfl, rfl⟩ | rfl) fun a76 hA76 => ?_
  refine wl_guard _ hA76 rfl rfl rfl rfl (by decide) (fun hq ev h => by simp [go_sem, h.c, ((h.get 8 rfl).trans (gw_t (beq_t hq))), K.cell]; try first | exact ⟨rfl, rfl⟩ | rfl) fun a77 hA77 => ?_
  refine wl_op hA77 rfl rfl (by decide) (fun ev h => by first | exact pick_and rfl (h.get 6 rfl) (h.get 9 rfl) (h.c _) | exact pick_or rfl (h.get 6 rfl) (h.get 9 rfl) (h.c _) | (simp [go_sem, h.c, h.get 6 rfl, h.get 9 rfl, K.cell, gv_or, gv_and]; try first | exact ⟨rfl, rfl⟩ | rfl)) fun a78 hA78 => ?_
  refine wl_op hA78 rfl rfl (by decide) (fun ev h => by simp [go_sem, h.get 10 rfl, K.cell]; try first | exact ⟨rfl, rfl⟩ | rfl) fun a79 hA79 => ?_
  refine wl_guard _ hA79 rfl rfl rfl rfl (by decide) (fun hq ev h => by simp [go_sem, (h.get 1 rfl), K.cell]; try first | exact ⟨rfl, rfl⟩ | rfl) fun a80 hA80 => ?_
  refine wl_guard _ hA80 rfl rfl rfl rfl (by decide) (fun hq ev h => by simp [go_sem, ((h.get 12 rfl).trans (gw_t (beq_t hq))), K.cell]; try first | exact ⟨rfl, rfl⟩ | rfl) fun a81 hA81 => ?_
  refine wl_guard _ hA81 rfl rfl rfl rfl (by decide) (fun hq ev h => by simp [go_sem, h.c, ((h.get 13 rfl).trans (gw_t (beq_t hq))), K.cell]; try first | exact ⟨rfl, rfl⟩ | rfl) fun a82 hA82 => ?_
  refine wl_op hA82 rfl rfl (by decide) (fun ev h => by first | exact pick_and rfl (h.get 11 rfl) (h.get 14 rfl) (h.c _) | exact pick_or rfl (h.get 11 rfl) (h.get 14 rfl) (h.c _) | (simp [go_sem, h.c, h.get 11 rfl, h.get 14 rfl, K.cell, gv_or, gv_and]; try first | exact ⟨rfl, rfl⟩ | rfl)) fun a83 hA83 => ?_
  refine wl_op hA83 rfl rfl (by decide) (fun ev h => by simp [go_sem, h.get 15 rfl, K.cell]; try first | exact ⟨rfl, rfl⟩ | rfl) fun a84 hA84 => ?_
  refine wl_guard _ hA84 rfl rfl rfl rfl (by decide) (fun hq ev h => by simp [go_sem, (h.get 1 rfl), K.cell]; try first | exact ⟨rfl, rfl⟩ | rfl) fun a85 hA85 => ?_
  refine wl_guard _ hA85 rfl rfl rfl rfl (by decide) (fun hq ev h => by simp [go_sem, ((h.get 17 rfl).trans (gw_t (beq_t hq))), K.cell]; try first | exact ⟨rfl, rfl⟩ | rfl) fun a86 hA86 => ?_
  refine wl_guard _ hA86 rfl rfl rfl rfl (by decide) (fun hq ev h => by simp [go_sem, h.c, ((h.get 18 rfl).trans (gw_t (beq_t hq))), K.cell]; try first | exact ⟨rfl, rfl⟩ | rfl) fun a87 hA87 => ?_
  refine wl_op hA87 rfl rfl (by decide) (fun ev h => by first | exact pick_and rfl (h.get 16 rfl) (h.get 19 rfl) (h.c _) | exact pick_or rfl (h.get 16 rfl) (h.get 19 rfl) (h.c _) | (simp [go_sem, h.c, h.get 16 rfl, h.get 19 rfl, K.cell, gv_or, gv_and]; try first | exact ⟨rfl, rfl⟩ | rfl)) fun a88 hA88 => ?_
  refine wl_op hA88 rfl rfl (by decide) (fun ev h => by simp [go_sem, h.get 20 rfl, K.cell]; try first | exact ⟨rfl, rfl⟩ | rfl) fun a89 hA89 => ?_
  refine wl_guard _ hA89 rfl rfl rfl rfl (by decide) (fun hq ev h => by simp [go_sem, (h.get 1 rfl), K.cell]; try first | exact ⟨rfl, rfl⟩ | rfl) fun a90 hA90 => ?_
  refine wl_guard _ hA90 rfl rfl rfl rfl (by decide) (fun hq ev h => by simp [go_sem, ((h.get 22 rfl).trans (gw_t (beq_t hq))), K.cell]; try first | exact ⟨rfl, rfl⟩ | rfl) fun a91 hA91 => ?_
  refine wl_guard _ hA91 rfl rfl rfl rfl (by decide) (fun hq ev h => by simp [go_sem, ((h.get 23 rfl).trans (gw_t (beq_t hq))), K.cell]; try first | exact ⟨rfl, rfl⟩ | rfl) fun a92 hA92 => ?_
  refine wl_guard _ hA92 rfl rfl rfl rfl (by decide) (fun hq ev h => by simp [go_sem, h.c, ((h.get 24 rfl).trans (gw_t (beq_t hq))), K.cell]; try first | exact ⟨rfl, rfl⟩ | rfl) fun a93 hA93 => ?_
  refine wl_op hA93 rfl rfl (by decide) (fun ev h => by first | exact pick_and rfl (h.get 21 rfl) (h.get 25 rfl) (h.c _) | exact pick_or rfl (h.get 21 rfl) (h.get 25 rfl) (h.c _) | (simp [go_sem, h.c, h.get 21 rfl, h.get 25 rfl, K.cell, gv_or, gv_and]; try first | exact ⟨rfl, rfl⟩ | rfl)) fun a94 hA94 => ?_
  refine wl_op hA94 rfl rfl (by decide) (fun ev h => by simp [go_sem, h.get 26 rfl, K.cell]; try first | exact ⟨rfl, rfl⟩ | rfl) fun a95 hA95 => ?_
  refine wl_nil ?_
  refine n_then ?_
  have hA96 := hA95.keep [2]
  simp only [argsE, keepE, lookS, Nat.reduceBEq, cond_true, cond_false, Nat.reduceAdd, gv_tt, gv_ff, Bool.true_and, Bool.false_and, Bool.true_or, Bool.false_or] at hA96
  clear hA70 hA71 hA72 hA73 hA74 hA75 hA76 hA77 hA78 hA79 hA80 hA81 hA82 hA83 hA84 hA85 hA86 hA87 hA88 hA89 hA90 hA91 hA92 hA93 hA94 hA95 a69 a71 a72 a73 a74 a75 a76 a77 a78 a79 a80 a81 a82 a83 a84 a85 a86 a87 a88 a89 a90 a91 a92 a93 a94
  refine wp_ret ?_
  -- ret
  refine ret_1 hA96 2 rfl rfl ?_
  refine ⟨ret_bool ?_, hb⟩
  unfold fitsDF dateOk
  rw [show decide (f ≤ 31) = decide (f < 32) by rw [Bool.eq_iff_iff]; simp; omega, show decide (n ≤ 20000) = decide ((n : Int) ≤ 20000) by rw [Bool.eq_iff_iff]; simp; omega]
set_option maxRecDepth 100000 in
set_option maxHeartbeats 1000000 in
theorem formed_any (k : Int) (e : Nat) (nm : ByteArray) (m : MsgV) (w : World) (hm : MaxCell w) (hg : 2 < w.heap.size) (htab : Lib.TabIs Tryd.prog w "internal/strconv.uint64pow10" .u64 Lib.pow10Tab) (hs : nm.size ≤ 9223372036854775807) :
    Calls Tryd.prog 15 #[.agg (noteC k e nm m)] w fun ev w' => ev = .returned (.bool (formedV k e nm m)) ∧ Below w.heap.size w w' := by
  have Ht := Lib.tabBelow_of_tabIs htab
  have hm0 := fun (w' : World) (hb : Below w.heap.size w w') => hm.below hg hb
  refine calls_at 56 Tryd.func15 rfl rfl (Nat.le_of_ble_eq_true rfl) ?_
  intro a hA
  simp only [argsE, keepE, lookS, Nat.reduceBEq, cond_true, cond_false, Nat.reduceAdd, gv_tt, gv_ff, Bool.true_and, Bool.false_and, Bool.true_or, Bool.false_or] at hA
  refine wp_seq ?_
  refine wp_region_lit ?_
  -- stop box slot 1
  refine wl_new hA rfl rfl (by decide) (fun ev h => by simp [go_sem, h.get 0 rfl]; try first | exact ⟨rfl, rfl⟩ | rfl) fun w1 a97 (K : Blk _ _ _ _) hz hb0 hA97 => ?_
  unfold noteC at K
  refine wl_op hA97 rfl rfl (by decide) (fun ev h => by simp [go_sem, h.c, K.cell]; try first | exact ⟨rfl, rfl⟩ | rfl) fun a98 hA98 => ?_
  refine wl_nil ?_
  refine n_then ?_
  have hA99 := hA98.keep [1]
  simp only [argsE, keepE, lookS, Nat.reduceBEq, cond_true, cond_false, Nat.reduceAdd, gv_tt, gv_ff, Bool.true_and, Bool.false_and, Bool.true_or, Bool.false_or] at hA99
  clear hA hA97 hA98 a97
  refine wp_seq ?_
  refine wp_block ?_
  refine wp_seq ?_
  refine wp_region_lit ?_
  refine wl_op hA99 rfl rfl (by decide) (fun ev h => by simp [go_sem, h.get 1 rfl, K.cell]; try first | exact ⟨rfl, rfl⟩ | rfl) fun a100 hA100 => ?_
  refine wl_op hA100 rfl rfl (by decide) (fun ev h => by simp [go_sem, h.get 4 rfl, K.cell]; try first | exact ⟨rfl, rfl⟩ | rfl) fun a101 hA101 => ?_
  refine wl_op hA101 rfl rfl (by decide) (fun ev h => by simp [go_sem, h.c, h.get 5 rfl, K.cell]; try first | exact ⟨rfl, rfl⟩ | rfl) fun a102 hA102 => ?_
  refine wl_op hA102 rfl rfl (by decide) (fun ev h => by simp [go_sem, h.get 6 rfl, K.cell]; try first | exact ⟨rfl, rfl⟩ | rfl) fun a103 hA103 => ?_
  refine wl_nil ?_
  refine n_then ?_
  have hA104 := hA103.keep [1, 3]
  simp only [argsE, keepE, lookS, Nat.reduceBEq, cond_true, cond_false, Nat.reduceAdd, gv_tt, gv_ff, Bool.true_and, Bool.false_and, Bool.true_or, Bool.false_or] at hA104
  clear hA99 hA100 hA101 hA102 hA103 a98 a100 a101 a102
  -- cond
  refine wp_if hA104 3 _ rfl (fun hq => ?yA) (fun hq => ?nA)
  case yA =>
    refine wp_seq ?_
    refine wp_region_lit ?_
    refine wl_op hA104 rfl rfl (by decide) (fun ev h => by simp [go_sem, h.c, K.cell]; try first | exact ⟨rfl, rfl⟩ | rfl) fun a105 hA105 => ?_
    refine wl_nil ?_
    refine n_then ?_
    have hA106 := hA105.keep [2]
    simp only [argsE, keepE, lookS, Nat.reduceBEq, cond_true, cond_false, Nat.reduceAdd, gv_tt, gv_ff, Bool.true_and, Bool.false_and, Bool.true_or, Bool.false_or] at hA106
    clear hA104 hA105
    refine wp_ret ?_
    refine r_block ?_
    refine r_then ?_
    refine ret_1 hA106 2 rfl rfl ?_
    exact ⟨ret_bool ((formed_0 nm m hq).symm), hb0⟩
  case nA =>
    refine wp_seq ?_
    refine wp_region_lit ?_
    refine wl_op hA104 rfl rfl (by decide) (fun ev h => by simp [go_sem, h.get 1 rfl, K.cell]; try first | exact ⟨rfl, rfl⟩ | rfl) fun a107 hA107 => ?_
    refine wl_op hA107 rfl rfl (by decide) (fun ev h => by simp [go_sem, h.get 8 rfl, K.cell]; try first | exact ⟨rfl, rfl⟩ | rfl) fun a108 hA108 => ?_
    refine wl_op hA108 rfl rfl (by decide) (fun ev h => by simp [go_sem, h.c, h.get 9 rfl, K.cell]; try first | exact ⟨rfl, rfl⟩ | rfl) fun a109 hA109 => ?_
    refine wl_op hA109 rfl rfl (by decide) (fun ev h => by simp [go_sem, h.get 10 rfl, K.cell]; try first | exact ⟨rfl, rfl⟩ | rfl) fun a110 hA110 => ?_
    refine wl_nil ?_
    refine n_then ?_
    have hA111 := hA110.keep [1, 7]
    simp only [argsE, keepE, lookS, Nat.reduceBEq, cond_true, cond_false, Nat.reduceAdd, gv_tt, gv_ff, Bool.true_and, Bool.false_and, Bool.true_or, Bool.false_or] at hA111
    clear hA104 hA107 hA108 hA109 hA110 a107 a108 a109
    -- cond
    refine wp_if hA111 7 _ rfl (fun hq1 => ?yB) (fun hq1 => ?nB)
    case yB =>
      refine wp_seq ?_
      refine wp_region_lit ?_
      refine wl_op hA111 rfl rfl (by decide) (fun ev h => by simp [go_sem, h.get 1 rfl, K.cell]; try first | exact ⟨rfl, rfl⟩ | rfl) fun a112 hA112 => ?_
      refine wl_op hA112 rfl rfl (by decide) (fun ev h => by simp [go_sem, h.get 11 rfl, K.cell]; try first | exact ⟨rfl, rfl⟩ | rfl) fun a113 hA113 => ?_
      -- stop call slot 13
      refine wl_call hA113 rfl rfl (by decide) (fun ev h => by simp [go_sem, h.get 12 rfl, K.cell, h.f]; try first | exact ⟨rfl, rfl⟩ | rfl) (bNamed_any nm hs _ (hm0 _ hb0)) ?_
      rintro e w2 ⟨rfl, hb⟩
      refine ⟨_, rfl, fun a114 hA114 => ?_⟩
      replace K := K.below hb K.lt
      refine wl_op hA114 rfl rfl (by decide) (fun ev h => by simp [go_sem, h.get 13 rfl, K.cell]; try first | exact ⟨rfl, rfl⟩ | rfl) fun a115 hA115 => ?_
      refine wl_guard _ hA115 rfl rfl rfl rfl (by decide) (fun hq ev h => by simp [go_sem, (h.get 1 rfl), K.cell]; try first | exact ⟨rfl, rfl⟩ | rfl) fun a116 hA116 => ?_
      refine wl_guard _ hA116 rfl rfl rfl rfl (by decide) (fun hq ev h => by simp [go_sem, ((h.get 15 rfl).trans (gw_t (beq_t hq))), K.cell]; try first | exact ⟨rfl, rfl⟩ | rfl) fun a117 hA117 => ?_
      -- stop call slot 17
      refine wl_gcallv _ hA117 rfl rfl rfl rfl (by decide) (fun hq ev h => by simp [go_sem, ((h.get 16 rfl).trans (gw_t (beq_t hq))), K.cell, h.f]; try first | exact ⟨rfl, rfl⟩ | rfl) (fun hq => bare_any (m.uid : Nat) m.date m.flags m.a m.b.length m.c _) fun a118 w3 hb3 hA118 => ?_
      replace K := K.below hb3 K.lt
      refine wl_op hA118 rfl rfl (by decide) (fun ev h => by first | exact pick_and rfl (h.get 14 rfl) (h.get 17 rfl) (h.c _) | exact pick_or rfl (h.get 14 rfl) (h.get 17 rfl) (h.c _) | (simp [go_sem, h.c, h.get 14 rfl, h.get 17 rfl, K.cell, gv_or, gv_and]; try first | exact ⟨rfl, rfl⟩ | rfl)) fun a119 hA119 => ?_
      refine wl_op hA119 rfl rfl (by decide) (fun ev h => by simp [go_sem, h.get 18 rfl, K.cell]; try first | exact ⟨rfl, rfl⟩ | rfl) fun a120 hA120 => ?_
      refine wl_guard _ hA120 rfl rfl rfl rfl (by decide) (fun hq ev h => by simp [go_sem, (h.get 1 rfl), K.cell]; try first | exact ⟨rfl, rfl⟩ | rfl) fun a121 hA121 => ?_
      refine wl_guard _ hA121 rfl rfl rfl rfl (by decide) (fun hq ev h => by simp [go_sem, ((h.get 20 rfl).trans (gw_t (beq_t hq))), K.cell]; try first | exact ⟨rfl, rfl⟩ | rfl) fun a122 hA122 => ?_
      refine wl_guard _ hA122 rfl rfl rfl rfl (by decide) (fun hq ev h => by simp [go_sem, ((h.get 21 rfl).trans (gw_t (beq_t hq))), K.cell]; try first | exact ⟨rfl, rfl⟩ | rfl) fun a123 hA123 => ?_
      refine wl_guard _ hA123 rfl rfl rfl rfl (by decide) (fun hq ev h => by simp [go_sem, h.c, ((h.get 22 rfl).trans (gw_t (beq_t hq))), K.cell]; try first | exact ⟨rfl, rfl⟩ | rfl) fun a124 hA124 => ?_
      refine wl_op hA124 rfl rfl (by decide) (fun ev h => by first | exact pick_and rfl (h.get 19 rfl) (h.get 23 rfl) (h.c _) | exact pick_or rfl (h.get 19 rfl) (h.get 23 rfl) (h.c _) | (simp [go_sem, h.c, h.get 19 rfl, h.get 23 rfl, K.cell, gv_or, gv_and]; try first | exact ⟨rfl, rfl⟩ | rfl)) fun a125 hA125 => ?_
      refine wl_op hA125 rfl rfl (by decide) (fun ev h => by simp [go_sem, h.get 24 rfl, K.cell]; try first | exact ⟨rfl, rfl⟩ | rfl) fun a126 hA126 => ?_
      refine wl_nil ?_
      refine n_then ?_
      have hA127 := hA126.keep [2]
      simp only [argsE, keepE, lookS, Nat.reduceBEq, cond_true, cond_false, Nat.reduceAdd, gv_tt, gv_ff, Bool.true_and, Bool.false_and, Bool.true_or, Bool.false_or] at hA127
      clear hA111 hA112 hA113 hA114 hA115 hA116 hA117 hA118 hA119 hA120 hA121 hA122 hA123 hA124 hA125 hA126 a112 a113 a114 a115 a116 a117 a118 a119 a120 a121 a122 a123 a124 a125
      refine wp_ret ?_
      refine r_block ?_
      refine r_then ?_
      -- ret
      refine ret_1 hA127 2 rfl rfl ?_
      exact ⟨ret_bool ((formed_1 nm m hq hq1).symm), (hb0.trans (hb.mono hb0.size)).trans (hb3.mono (Nat.le_trans hb0.size hb.size))⟩
    case nB =>
      refine wp_seq ?_
      refine wp_region_lit ?_
      refine wl_op hA111 rfl rfl (by decide) (fun ev h => by simp [go_sem, h.get 1 rfl, K.cell]; try first | exact ⟨rfl, rfl⟩ | rfl) fun a128 hA128 => ?_
      refine wl_op hA128 rfl rfl (by decide) (fun ev h => by simp [go_sem, h.get 26 rfl, K.cell]; try first | exact ⟨rfl, rfl⟩ | rfl) fun a129 hA129 => ?_
      refine wl_op hA129 rfl rfl (by decide) (fun ev h => by simp [go_sem, h.c, h.get 27 rfl, K.cell]; try first | exact ⟨rfl, rfl⟩ | rfl) fun a130 hA130 => ?_
      refine wl_op hA130 rfl rfl (by decide) (fun ev h => by simp [go_sem, h.get 28 rfl, K.cell]; try first | exact ⟨rfl, rfl⟩ | rfl) fun a131 hA131 => ?_
      refine wl_nil ?_
      refine n_then ?_
      have hA132 := hA131.keep [1, 25]
      simp only [argsE, keepE, lookS, Nat.reduceBEq, cond_true, cond_false, Nat.reduceAdd, gv_tt, gv_ff, Bool.true_and, Bool.false_and, Bool.true_or, Bool.false_or] at hA132
      clear hA111 hA128 hA129 hA130 hA131 a128 a129 a130
      -- cond
      refine wp_if hA132 25 _ rfl (fun hq2 => ?yC) (fun hq2 => ?nC)
      case yC =>
        refine wp_seq ?_
        refine wp_region_lit ?_
        refine wl_op hA132 rfl rfl (by decide) (fun ev h => by simp [go_sem, h.get 1 rfl, K.cell]; try first | exact ⟨rfl, rfl⟩ | rfl) fun a133 hA133 => ?_
        refine wl_op hA133 rfl rfl (by decide) (fun ev h => by simp [go_sem, h.get 29 rfl, K.cell]; try first | exact ⟨rfl, rfl⟩ | rfl) fun a134 hA134 => ?_
        -- stop call slot 31
        refine wl_call hA134 rfl rfl (by decide) (fun ev h => by simp [go_sem, h.get 30 rfl, K.cell, h.f]; try first | exact ⟨rfl, rfl⟩ | rfl) (bNamed_any nm hs _ (hm0 _ hb0)) ?_
        rintro e w2 ⟨rfl, hb⟩
        refine ⟨_, rfl, fun a135 hA135 => ?_⟩
        replace K := K.below hb K.lt
        refine wl_op hA135 rfl rfl (by decide) (fun ev h => by simp [go_sem, h.get 31 rfl, K.cell]; try first | exact ⟨rfl, rfl⟩ | rfl) fun a136 hA136 => ?_
        refine wl_guard _ hA136 rfl rfl rfl rfl (by decide) (fun hq ev h => by simp [go_sem, (h.get 1 rfl), K.cell]; try first | exact ⟨rfl, rfl⟩ | rfl) fun a137 hA137 => ?_
        refine wl_guard _ hA137 rfl rfl rfl rfl (by decide) (fun hq ev h => by simp [go_sem, ((h.get 33 rfl).trans (gw_t (beq_t hq))), K.cell]; try first | exact ⟨rfl, rfl⟩ | rfl) fun a138 hA138 => ?_
        -- stop call slot 35
        refine wl_gcallv _ hA138 rfl rfl rfl rfl (by decide) (fun hq ev h => by simp [go_sem, ((h.get 34 rfl).trans (gw_t (beq_t hq))), K.cell, h.f]; try first | exact ⟨rfl, rfl⟩ | rfl) (fun hq => rightMsg_any m _ (Ht _ (hb0.trans (hb.mono hb0.size)))) fun a139 w3 hb3 hA139 => ?_
        replace K := K.below hb3 K.lt
        refine wl_op hA139 rfl rfl (by decide) (fun ev h => by first | exact pick_and rfl (h.get 32 rfl) (h.get 35 rfl) (h.c _) | exact pick_or rfl (h.get 32 rfl) (h.get 35 rfl) (h.c _) | (simp [go_sem, h.c, h.get 32 rfl, h.get 35 rfl, K.cell, gv_or, gv_and]; try first | exact ⟨rfl, rfl⟩ | rfl)) fun a140 hA140 => ?_
        refine wl_op hA140 rfl rfl (by decide) (fun ev h => by simp [go_sem, h.get 36 rfl, K.cell]; try first | exact ⟨rfl, rfl⟩ | rfl) fun a141 hA141 => ?_
        refine wl_nil ?_
        refine n_then ?_
        have hA142 := hA141.keep [2]
        simp only [argsE, keepE, lookS, Nat.reduceBEq, cond_true, cond_false, Nat.reduceAdd, gv_tt, gv_ff, Bool.true_and, Bool.false_and, Bool.true_or, Bool.false_or] at hA142
        clear hA132 hA133 hA134 hA135 hA136 hA137 hA138 hA139 hA140 hA141 a133 a134 a135 a136 a137 a138 a139 a140
        refine wp_ret ?_
        refine r_block ?_
        refine r_then ?_
        -- ret
        refine ret_1 hA142 2 rfl rfl ?_
        exact ⟨ret_bool ((formed_2 nm m hq hq1 hq2).symm), (hb0.trans (hb.mono hb0.size)).trans (hb3.mono (Nat.le_trans hb0.size hb.size))⟩
      case nC =>
        refine wp_skip ?_
        refine n_block ?_
        refine n_then ?_
        refine wp_seq ?_
        refine wp_region_lit ?_
        refine wl_op hA132 rfl rfl (by decide) (fun ev h => by simp [go_sem, h.get 1 rfl, K.cell]; try first | exact ⟨rfl, rfl⟩ | rfl) fun a143 hA143 => ?_
        refine wl_op hA143 rfl rfl (by decide) (fun ev h => by simp [go_sem, h.get 37 rfl, K.cell]; try first | exact ⟨rfl, rfl⟩ | rfl) fun a144 hA144 => ?_
        refine wl_op hA144 rfl rfl (by decide) (fun ev h => by simp [go_sem, h.c, h.get 38 rfl, K.cell]; try first | exact ⟨rfl, rfl⟩ | rfl) fun a145 hA145 => ?_
        refine wl_op hA145 rfl rfl (by decide) (fun ev h => by simp [go_sem, h.get 39 rfl, K.cell]; try first | exact ⟨rfl, rfl⟩ | rfl) fun a146 hA146 => ?_
        refine wl_guard _ hA146 rfl rfl rfl rfl (by decide) (fun hq ev h => by simp [go_sem, (h.get 1 rfl), K.cell]; try first | exact ⟨rfl, rfl⟩ | rfl) fun a147 hA147 => ?_
        refine wl_guard _ hA147 rfl rfl rfl rfl (by decide) (fun hq ev h => by simp [go_sem, ((h.get 41 rfl).trans (gw_t (beq_t hq))), K.cell]; try first | exact ⟨rfl, rfl⟩ | rfl) fun a148 hA148 => ?_
        refine wl_guard _ hA148 rfl rfl rfl rfl (by decide) (fun hq ev h => by simp [go_sem, h.c, ((h.get 42 rfl).trans (gw_t (beq_t hq))), K.cell]; try first | exact ⟨rfl, rfl⟩ | rfl) fun a149 hA149 => ?_
        refine wl_op hA149 rfl rfl (by decide) (fun ev h => by first | exact pick_and rfl (h.get 40 rfl) (h.get 43 rfl) (h.c _) | exact pick_or rfl (h.get 40 rfl) (h.get 43 rfl) (h.c _) | (simp [go_sem, h.c, h.get 40 rfl, h.get 43 rfl, K.cell, gv_or, gv_and]; try first | exact ⟨rfl, rfl⟩ | rfl)) fun a150 hA150 => ?_
        refine wl_op hA150 rfl rfl (by decide) (fun ev h => by simp [go_sem, h.get 44 rfl, K.cell]; try first | exact ⟨rfl, rfl⟩ | rfl) fun a151 hA151 => ?_
        refine wl_guard _ hA151 rfl rfl rfl rfl (by decide) (fun hq ev h => by simp [go_sem, (h.get 1 rfl), K.cell]; try first | exact ⟨rfl, rfl⟩ | rfl) fun a152 hA152 => ?_
        refine wl_guard _ hA152 rfl rfl rfl rfl (by decide) (fun hq ev h => by simp [go_sem, ((h.get 46 rfl).trans (gw_t (beq_t hq))), K.cell]; try first | exact ⟨rfl, rfl⟩ | rfl) fun a153 hA153 => ?_
        -- stop call slot 48
        refine wl_gcallv _ hA153 rfl rfl rfl rfl (by decide) (fun hq ev h => by simp [go_sem, ((h.get 47 rfl).trans (gw_t (beq_t hq))), K.cell, h.f]; try first | exact ⟨rfl, rfl⟩ | rfl) (fun hq => bare_any (m.uid : Nat) m.date m.flags m.a m.b.length m.c _) fun a154 w3 hb3 hA154 => ?_
        replace K := K.below hb3 K.lt
        refine wl_op hA154 rfl rfl (by decide) (fun ev h => by first | exact pick_and rfl (h.get 45 rfl) (h.get 48 rfl) (h.c _) | exact pick_or rfl (h.get 45 rfl) (h.get 48 rfl) (h.c _) | (simp [go_sem, h.c, h.get 45 rfl, h.get 48 rfl, K.cell, gv_or, gv_and]; try first | exact ⟨rfl, rfl⟩ | rfl)) fun a155 hA155 => ?_
        refine wl_op hA155 rfl rfl (by decide) (fun ev h => by simp [go_sem, h.get 49 rfl, K.cell]; try first | exact ⟨rfl, rfl⟩ | rfl) fun a156 hA156 => ?_
        refine wl_guard _ hA156 rfl rfl rfl rfl (by decide) (fun hq ev h => by simp [go_sem, (h.get 1 rfl), K.cell]; try first | exact ⟨rfl, rfl⟩ | rfl) fun a157 hA157 => ?_
        refine wl_guard _ hA157 rfl rfl rfl rfl (by decide) (fun hq ev h => by simp [go_sem, ((h.get 51 rfl).trans (gw_t (beq_t hq))), K.cell]; try first | exact ⟨rfl, rfl⟩ | rfl) fun a158 hA158 => ?_
        refine wl_guard _ hA158 rfl rfl rfl rfl (by decide) (fun hq ev h => by simp [go_sem, ((h.get 52 rfl).trans (gw_t (beq_t hq))), K.cell]; try first | exact ⟨rfl, rfl⟩ | rfl) fun a159 hA159 => ?_
        refine wl_guard _ hA159 rfl rfl rfl rfl (by decide) (fun hq ev h => by simp [go_sem, h.c, ((h.get 53 rfl).trans (gw_t (beq_t hq))), K.cell]; try first | exact ⟨rfl, rfl⟩ | rfl) fun a160 hA160 => ?_
        refine wl_op hA160 rfl rfl (by decide) (fun ev h => by first | exact pick_and rfl (h.get 50 rfl) (h.get 54 rfl) (h.c _) | exact pick_or rfl (h.get 50 rfl) (h.get 54 rfl) (h.c _) | (simp [go_sem, h.c, h.get 50 rfl, h.get 54 rfl, K.cell, gv_or, gv_and]; try first | exact ⟨rfl, rfl⟩ | rfl)) fun a161 hA161 => ?_
        refine wl_op hA161 rfl rfl (by decide) (fun ev h => by simp [go_sem, h.get 55 rfl, K.cell]; try first | exact ⟨rfl, rfl⟩ | rfl) fun a162 hA162 => ?_
        refine wl_nil ?_
        refine n_then ?_
        have hA163 := hA162.keep [2]
        simp only [argsE, keepE, lookS, Nat.reduceBEq, cond_true, cond_false, Nat.reduceAdd, gv_tt, gv_ff, Bool.true_and, Bool.false_and, Bool.true_or, Bool.false_or] at hA163
        clear hA132 hA143 hA144 hA145 hA146 hA147 hA148 hA149 hA150 hA151 hA152 hA153 hA154 hA155 hA156 hA157 hA158 hA159 hA160 hA161 hA162 a143 a144 a145 a146 a147 a148 a149 a150 a151 a152 a153 a154 a155 a156 a157 a158 a159 a160 a161
        refine wp_ret ?_
        -- ret
        refine ret_1 hA163 2 rfl rfl ?_
        exact ⟨ret_bool ((formed_3 nm m hq hq1 hq2).symm), hb0.trans (hb3.mono hb0.size)⟩
end Go.Proofs.YtmjikfeaopmejaaDoor
