/-
  Walk of the disk's Clone.
-/
import Derived.Test.YtplbclbeccoegaaDiskHarm
namespace Go.Proofs.Ytplbclbeccoegaa
open Go.RowKit Go.Maps
/-- those that have come -/
def seenL (left : Lit → Bool) (es : List (Key × FV)) : List (Key × FV) := es.filter fun q => !left (.string q.1)
theorem fget_seen (left : Lit → Bool) (k : Key) : ∀ es : List (Key × FV), fget k (seenL left es) = if left (.string k) = true then none else fget k es
  | [] => by simp [seenL, fget]
  | (y, u) :: r => by
    have ih := fget_seen left k r
    unfold seenL at ih ⊢
    rw [List.filter_cons]
    by_cases hy : left (.string y) = true
    · simp only [hy, Bool.not_true, Bool.false_eq_true, if_false]
      rw [ih, fget_cons]
      by_cases e : y = k
      · subst e; rw [if_pos hy, if_pos hy]
      · rw [if_neg e]
    · have hy' : left (.string y) = false := by simpa using hy
      simp only [hy', Bool.not_false, if_true]
      rw [fget_cons, ih, fget_cons]
      by_cases e : y = k
      · subst e; rw [if_pos rfl, if_pos rfl, hy']; simp
      · rw [if_neg e, if_neg e]
theorem up_seen {left : Lit → Bool} {es : List (Key × FV)} (h : Up es) : Up (seenL left es) := List.Pairwise.filter _ h
theorem fget_has {l : List (Key × FV)} {k : Key} (h : Maps.has (dmap heldF l) (.string k) = false) : fget k l = none := by
  rw [dmap_has] at h
  simpa using h
theorem seen_start {es : List (Key × FV)} (h : Up es) : seenL (Maps.has (dmap heldF es)) es = [] := by
  refine up_ext (up_seen h) up_nil fun k => ?_
  rw [fget_seen]
  by_cases hk : Maps.has (dmap heldF es) (.string k) = true
  · rw [if_pos hk]; rfl
  · rw [if_neg hk, fget_has (by simpa using hk)]; rfl
theorem seen_end {left : Lit → Bool} (hl : ∀ kl, left kl = false) (es : List (Key × FV)) : seenL left es = es := by
  unfold seenL
  rw [List.filter_eq_self.2 (fun q _ => by rw [hl]; rfl)]
theorem seen_step {left : Lit → Bool} {x : Key} {v : FV} {es : List (Key × FV)} (h : Up es) (hg : fget x es = some v) : fput x v (seenL left es) = seenL (fun z => left z && !z.sameKey (.string x)) es := by
  refine up_ext (up_fput (up_seen h)) (up_seen h) fun k => ?_
  rw [fget_fput, fget_seen, fget_seen, sameKey_str]
  by_cases e : k = x
  · subst e; simp [hg]
  · simp [e]
theorem DiskAt.iter {w w' : World} {p mb cap : Nat} {es : List (Key × FV)} {fuse : Int} {lost : Bool} (h : DiskAt w p mb es cap fuse lost) {r : Nat} (hg : w.grownBy w' (some r)) {M : Option Nat} {since c0 : Nat} {seen : Array Nat} (hr : w.heap[r]? = some (.mapIter M since seen c0)) : DiskAt w' p mb es cap fuse lost := by
  have hp : p ≠ r := by intro e; have := h.cells; unfold Blk at this; rw [e, hr] at this; cases this
  have hm : mb ≠ r := by intro e; obtain ⟨a, c, hh, _⟩ := h.map; rw [e, hr] at hh; cases hh
  have hc : ∀ (ad : Addr) (x : Value), w.cell? ad = some x → ad.block ≠ r := by
    intro ad x hx e
    unfold World.cell? at hx
    rw [e, hr] at hx
    cases hx
  refine ⟨h.cells.grown hg (fun e => hp (by injection e)), h.map.kept hg (fun e => hm (by injection e)), h.up, fun q hq => ⟨?_, (h.bytes q hq).2⟩⟩
  obtain ⟨h1, h2⟩ := (h.bytes q hq).1
  refine ⟨h1, fun hn => ?_⟩
  obtain ⟨ad, e, hlt, hcc⟩ := h2 hn
  refine ⟨ad, e, Nat.lt_of_lt_of_le hlt hg.size, fun j u hu => ?_⟩
  have h0 := hcc j u hu
  have hb := hc _ _ h0
  rw [← h0]
  exact World.cell?_of_block (hg.block _ (by rw [block_of_add]; exact hlt) (fun e => hb (by injection e)))
theorem ranges_iter {w : World} {P : Program} {k : TypeId} {R : Value → Option (DataW Value × List MemPlace)} {b r n : Nat} {D : DataW Value} {left : Lit → Bool} {cnt : Nat} (h : w.ranges P k R b r n D left cnt) : ∃ M since seen c0, w.heap[r]? = some (.mapIter M since seen c0) := by
  obtain ⟨es, clock, since, seen, c0, _, _, _, _, hr, _⟩ := h
  exact ⟨_, _, _, _, hr⟩
theorem clone_nil' (w : World) : Calls Try.prog 14 #[.pointer none] w fun e w' => e = .returned (.pointer none) ∧ w' = w := by
  go_enter Try.func14, Try.ntmps14
  go_wp2
  go_ret
  exact ⟨rfl, rfl⟩
set_option maxHeartbeats 1600000 in
set_option maxRecDepth 100000 in
theorem clone_at {w : World} {p mb : Nat} {d : DiskM} (h : Disk w p mb d) (hf : WFD d) (hN : d.files.length < 1000000) :
    Calls Try.prog 14 #[.pointer (some ⟨p, 0, none⟩)] w fun e w' => ∃ q mo, e = .returned (.pointer (some ⟨q, 0, none⟩)) ∧ Disk w' q mo d ∧ w.heap.size ≤ q ∧ w.heap.size ≤ mo ∧ Below w.heap.size w w' := by
  have hmm := @run_makeMap Try.prog
  have hrm := hf.room
  have hcp := hf.cap
  clear hf
  obtain ⟨cap, files, fuse, lost⟩ := d
  obtain ⟨es, hfi, h⟩ := h
  obtain rfl : files = fmap FV.m es := hfi
  have hN' : es.length < 1000000 := by simpa [fmap] using hN
  have hlen : ∀ k fv, fget k es = some fv → fv.m.b.length ≤ 4194304 := fun k fv hg => by
    have := used_get (k := k) (f := fv.m) (l := fmap FV.m es) (by rw [fget_m, hg]; rfl)
    simp only at hrm hcp; omega
  have HL : Hid (∀ k fv, fget k es = some fv → fv.m.b.length ≤ 4194304) := hlen
  have c0 := h.c0
  have c1 := h.c1
  have c2 := h.c2
  have c3 := h.c3
  have H := Lib.hid h
  clear hN hrm hcp h hlen
  go_enter Try.func14, Try.ntmps14
  go_wp2
  have c1a := Lib.cell?_alloc_some (.map #[] 0) c1
  have c1b := Lib.cell?_alloc_some (.cells #[.int .i64 (cap : Nat), .map (some w.heap.size), .int .i64 fuse, .bool lost] 55) c1a
  have n0 := World.new_ne w _ c0
  have n2 := World.new_ne w _ c2
  have n3 := World.new_ne w _ c3
  have n1 := World.new_ne w _ c1
  go_region_held3 (fun w' => w'.cell? ⟨p, 0, none⟩ = some (.int .i64 (cap : Nat)) ∧ w'.cell? ⟨p, 2, none⟩ = some (.int .i64 fuse) ∧ w'.cell? ⟨p, 3, none⟩ = some (.bool lost)) (go_keep) (fail)
  go_wp2_with (first | (at_range; refine wpList_range_own _ rfl _ 53 rfl 9 65 string_key Try.underlying53 heldR mb es.length (dmap heldF es) rfl ?own ?_) | go_in)
  case own => exact ((H.out.map.alloc _).alloc _).drew
  intro w0 hrg0 hg0 hs0
  have hbb : Below w.heap.size w ((w.alloc (.map #[] 0)).alloc (.cells #[.int .i64 (cap : Nat), .map (some w.heap.size), .int .i64 fuse, .bool lost] 55)).drew := (((Below.refl _ _).alloc (by simp) _).alloc (by simp) _).drew
  have hb0 : Below w.heap.size w w0 := hbb.grown hg0 (by simp; omega) (fun k hk => by cases hk)
  have hd0 : DiskAt w0 (w.heap.size + 1) w.heap.size [] cap fuse lost := by
    refine ⟨?_, ?_, up_nil, fun q hq => by cases hq⟩
    · have hk := Blk.new (w.alloc (.map #[] 0)) 55 (dcells w.heap.size cap fuse lost)
      rw [World.size_alloc] at hk
      exact hk.drew.grown hg0 (by simp)
    · exact (((World.ownsMap_made w _ _ _).alloc _).drew).kept hg0 (by simp)
  have HR0 := Lib.hid hrg0
  have HB0 := Lib.hid hb0
  have HD0 := Lib.hid hd0
  have hsz : w.heap.size + 2 ≤ w0.heap.size := by omega
  clear c0 c1 c2 c3 c1a c1b hrg0 hg0 hs0 hbb hb0 hd0 n0 n1 n2 n3 hmm
  go_wp2_with fail
  go_loopw [4] (fun v wr => ∃ (left : Lit → Bool) (cnt : Nat) (es2 : List (Key × FV)), Hid (wr.ranges Try.prog 9 heldR mb (w.heap.size + 1 + 1) es.length (dmap heldF es) left cnt) ∧ Hid (DiskAt wr (w.heap.size + 1) w.heap.size es2 cap fuse lost) ∧ Hid (fmap FV.m es2 = fmap FV.m (seenL left es)) ∧ Hid (Below w.heap.size w wr)) (fun _ wr => wr.rangeLeft mb (w.heap.size + 1 + 1))
  case atStart => exact ⟨_, _, [], HR0, HD0, by show _ = _; rw [seen_start H.out.up], HB0⟩
  case round =>
    obtain ⟨left, cnt, es2, hrg, hd, hes, hb⟩ := hrel
    go_wp2_with (first | (at_next; refine wpList_next_files rfl _ rfl mb (w.heap.size + 1 + 1) es.length es _ _ rfl hrg.out ?_ ?_) | go_in)
    · intro _ hl0
      have e := seen_end hl0 es
      have Hes : Hid (fmap FV.m es = fmap FV.m es2) := by show _ = _; rw [hes.out, e]
      clear e hl0
      go_wp2
      go_ret
      exact ⟨_, _, rfl, ⟨es2, Hes.out, hd.out⟩, by omega, by omega, hb.out⟩
    · intro x ⟨⟨b, sf, ev⟩, A, c⟩ w1 cnt1 hxl hlx hget hrg1 hlt hg1 hs1 hen
      obtain ⟨M, since, seen, cc, hri⟩ := ranges_iter hrg.out
      have hd1 := hd.out.iter hg1 hri
      have hb1 := hb.out.grown hg1 hb.out.size (fun k hk => by cases hk; omega)
      have hble : b.length ≤ 4194304 := HL.out _ _ hget
      have hby := H.out.bytes _ (fget_mem hget)
      have hks : (⟨x.toArray⟩ : ByteArray).size ≤ maxLen := by simpa [ByteArray.size] using hxl
      have hl2 : es2.length < 1000000 := by
        have e1 : es2.length = (fmap FV.m es2).length := by simp [fmap]
        rw [e1, hes.out]
        have := List.length_filter_le (fun q : Key × FV => !left (.string q.1)) es
        simp only [fmap, List.length_map, seenL]
        omega
      have hst : fmap FV.m (fput x ⟨⟨b, sf, ev⟩, A, c⟩ (seenL left es)) = fmap FV.m (seenL (fun z => left z && !z.sameKey (.string x)) es) := by rw [seen_step H.out.up hget]
      have HST := Lib.hid hst
      have hle1 := hb1.size
      have hr1 : Reads w1 w1.heap.size 1 A b.length (u8s b) := (hby.1.below hb1).more hle1
      have hF := Blk.new w1 65 #[.slice A b.length c, .int .i64 (sf : Nat), .bool ev]
      have hd2 := hd1.below ((Below.refl _ _).alloc (Nat.le_refl _) (.cells #[.slice A b.length c, .int .i64 (sf : Nat), .bool ev] 65))
      have hr2 : Reads (w1.alloc (.cells #[.slice A b.length c, .int .i64 (sf : Nat), .bool ev] 65)) (w1.alloc (.cells #[.slice A b.length c, .int .i64 (sf : Nat), .bool ev] 65)).heap.size 1 A b.length (u8s b) := (hr1.alloc (Nat.le_refl _) _).more (by simp)
      have hrg2 := hrg1.alloc (.cells #[.slice A b.length c, .int .i64 (sf : Nat), .bool ev] 65)
      have hb2 := hb1.alloc hle1 (.cells #[.slice A b.length c, .int .i64 (sf : Nat), .bool ev] 65)
      have hgf : w.heap.size + 1 ≠ w1.heap.size ∧ w.heap.size ≠ w1.heap.size := ⟨Nat.ne_of_lt hd1.cells.lt, Nat.ne_of_lt hd1.map.lt⟩
      have HGF : Hid (w.heap.size + 1 ≠ w1.heap.size ∧ w.heap.size ≠ w1.heap.size) := hgf
      have HLT := Lib.hid hlt
      generalize hW2 : w1.alloc (.cells #[.slice A b.length c, .int .i64 (sf : Nat), .bool ev] 65) = w2 at *
      have HW2 := Lib.hid hW2
      have HD2 := Lib.hid hd2
      have HF2 := Lib.hid hF
      have HR2 := Lib.hid hr2
      have HRG2 := Lib.hid hrg2
      have HB2 := Lib.hid hb2
      have HKS := Lib.hid hks
      clear hW2 hd2 hF hr2 hrg2 hb2 hks hgf hlt hst hri hd1 hb1 hby hr1 hle1 hrg1 hg1 hs1 hget hlx hxl
      go_upto_region 7 with (fail)
      rw [HW2.out]
      have x1 : w2.cell? ⟨w.heap.size + 1, 1, none⟩ = some (.map (some w.heap.size)) := HD2.out.c1
      have y0 : w2.cell? ⟨w1.heap.size, 0, none⟩ = some (.slice A b.length c) := by rw [HF2.out.cell]; rfl
      have y1 : w2.cell? ⟨w1.heap.size, 1, none⟩ = some (.int .i64 (sf : Nat)) := by rw [HF2.out.cell]; rfl
      have y2 : w2.cell? ⟨w1.heap.size, 2, none⟩ = some (.bool ev) := by rw [HF2.out.cell]; rfl
      clear hen
      go_region_held3 (fun w' => w'.cell? ⟨w.heap.size + 1, 1, none⟩ = some (.map (some w.heap.size)) ∧ w'.cell? ⟨w1.heap.size, 0, none⟩ = some (.slice A b.length c) ∧ w'.cell? ⟨w1.heap.size, 1, none⟩ = some (.int .i64 (sf : Nat)) ∧ w'.cell? ⟨w1.heap.size, 2, none⟩ = some (.bool ev)) (go_keep)
        (first | (go_at_call 35; refine (clone_any A b.length c b w2.drew rfl (by omega) HR2.out).mono ?_; rintro e w3 ⟨A', c', rfl, hr3, hc3, hb3⟩; have hb3' : Below w2.heap.size w2 w3 := ⟨hb3.os, hb3.tape, hb3.output, hb3.size, hb3.block⟩; clear hb3; have hd3 := Lib.hid (HD2.out.below hb3'); have x3 : w3.cell? ⟨w.heap.size + 1, 1, none⟩ = some (.map (some w.heap.size)) := hd3.out.c1; have z0 : w3.cell? ⟨w1.heap.size, 0, none⟩ = some (.slice A b.length c) := (hb3'.cell HF2.out.lt).trans y0; have z1 : w3.cell? ⟨w1.heap.size, 1, none⟩ = some (.int .i64 (sf : Nat)) := (hb3'.cell HF2.out.lt).trans y1; have z2 : w3.cell? ⟨w1.heap.size, 2, none⟩ = some (.bool ev) := (hb3'.cell HF2.out.lt).trans y2; obtain ⟨w4, hrun, hm4, ht4⟩ := store_some (w := w3) hd3.out.map hd3.out.up (by unfold maxLen; omega) ⟨x.toArray⟩ HKS.out b sf ev A' c'; have k1 : w4.heap[w.heap.size + 1]? = w3.heap[w.heap.size + 1]? := ht4.grown.block _ hd3.out.cells.lt (fun e => hd3.out.ne (by injection e)); have k2 : w4.heap[w1.heap.size]? = w3.heap[w1.heap.size]? := ht4.grown.block _ (Nat.lt_of_lt_of_le HF2.out.lt hb3'.size) (fun e => HGF.out.2 (by injection e with e; exact e.symm)); have x4 : w4.cell? ⟨w.heap.size + 1, 1, none⟩ = some (.map (some w.heap.size)) := (World.cell?_of_block k1).trans x3; have v0 : w4.cell? ⟨w1.heap.size, 0, none⟩ = some (.slice A b.length c) := (World.cell?_of_block k2).trans z0; have v1 : w4.cell? ⟨w1.heap.size, 1, none⟩ = some (.int .i64 (sf : Nat)) := (World.cell?_of_block k2).trans z1; have v2 : w4.cell? ⟨w1.heap.size, 2, none⟩ = some (.bool ev) := (World.cell?_of_block k2).trans z2; clear k1 k2))
      have hm5 : w4.ownsMap Try.prog 9 heldR w.heap.size (es2.length + 1) (dmap heldF (fput x ⟨⟨b, sf, ev⟩, A', c'⟩ es2)) := by first | exact hm4 | simpa using hm4
      obtain ⟨h4, hb4⟩ := hd3.out.store (But.refl _ _ _) hd3.out.cells x ⟨⟨b, sf, ev⟩, A', c'⟩ hm5 ht4 ⟨hd3.out.reads_but ((But.refl _ _ _).turned ht4) hr3, hc3⟩
      have hrg3 := HRG2.out.kept (w' := w3) (row := none) ⟨hb3'.os, hb3'.tape, hb3'.output, hb3'.size, fun k hk _ => hb3'.block k hk⟩ (by simp) (by simp)
      obtain ⟨M2, since2, seen2, cc2, hri2⟩ := ranges_iter hrg3
      have hrg4 := hrg3.kept ht4.grown (fun e => by injection e with e; have := H.out.map.lt; omega) (fun e => by injection e with e; omega)
      have hb5 := (HB2.out.trans (hb3'.mono HB2.out.size)).grown ht4.grown (Nat.le_trans HB2.out.size hb3'.size) (fun k hk => by injection hk with hk; omega)
      have H4 := Lib.hid h4
      have HRG4 := Lib.hid hrg4
      have HB5 := Lib.hid hb5
      clear h4 hb4 hrg3 hri2 hrg4 hb5 hm4 hm5 ht4 hr3 hc3 hb3' x3 z0 z1 z2 x4 v0 v1 v2 hrun x1 y0 y1 y2
      go_wp2
      go_roundw
      case rel =>
        refine ⟨_, cnt1, _, HRG4, H4, ?_, HB5⟩
        show _ = _
        rw [← HST.out, fput_fmap, fput_fmap, hes.out]
      case measure =>
        rw [HRG4.out.left_eq, hrg.out.left_eq]
        exact HLT.out
end Go.Proofs.Ytplbclbeccoegaa
