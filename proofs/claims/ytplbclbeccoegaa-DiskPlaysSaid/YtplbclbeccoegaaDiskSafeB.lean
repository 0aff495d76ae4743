/-
  Walk of the statement on what is safe.
-/
import Derived.Test.YtplbclbeccoegaaDiskClonesB
namespace Go.Proofs.Ytplbclbeccoegaa
open Go.RowKit Go.Maps
theorem restartL_keep (keep : List Int) {k : Key} {f : FileM} (hw : f.whole = true) : ∀ (l : List (Key × FileM)) (i : Nat), Up l → fget k l = some f → fget k (restartL keep i l) = some f
  | (y, u) :: r, i, hup, hg => by
    obtain ⟨h1, h2⟩ := up_cons.1 hup
    rw [fget_cons] at hg
    rw [restartL_cons]
    by_cases e : y = k
    · rw [if_pos e] at hg
      injection hg with hg
      subst hg
      rw [if_pos hw, fget_cons, if_pos e]
    · rw [if_neg e] at hg
      have ih := fun i => restartL_keep keep hw r i h2 hg
      split
      · rw [fget_cons, if_neg e]; exact ih _
      · split
        · exact ih _
        · rw [fget_cons, if_neg e]; exact ih _
theorem restartL_same (keep : List Int) : ∀ (l : List (Key × FileM)) (i : Nat), (∀ q ∈ l, q.2.whole = true) → restartL keep i l = l
  | [], _, _ => rfl
  | q :: r, i, h => by
    rw [restartL_cons, if_pos (h q List.mem_cons_self), restartL_same keep r i (fun z hz => h z (List.mem_cons_of_mem _ hz))]
theorem restart_whole_all (d : DiskM) (keep : List Int) : ∀ q ∈ (dRestart d keep).files, q.2.whole = true := fun q hq => (restartL_mem keep d.files 0 q hq).2.1
theorem restart_again (d : DiskM) (keep again : List Int) : dRestart (dRestart d keep) again = dRestart d keep := by
  have h := restartL_same again (dRestart d keep).files 0 (restart_whole_all d keep)
  show (⟨d.cap, restartL again 0 (dRestart d keep).files, -1, false⟩ : DiskM) = _
  rw [h]; rfl
theorem read_safe {d : DiskM} (h : WFD d) (keep : List Int) {q : Key × FileM} (hq : q ∈ d.files) (hw : q.2.whole = true) : dRead (dRestart d keep) q.1 = (q.2.b, 0) := by
  have hg := restartL_keep keep hw d.files 0 h.up (fget_of_mem h.up hq)
  unfold dRead
  rw [if_neg (by simp [dRestart])]
  have hg' : fget q.1 (dRestart d keep).files = some q.2 := hg
  rw [hg']
theorem read_there {d : DiskM} (h : WFD d) (hl : d.lost = false) {q : Key × FileM} (hq : q ∈ d.files) : dRead d q.1 = (q.2.b, 0) := by
  unfold dRead
  rw [if_neg (by rw [hl]; simp), fget_of_mem h.up hq]
/-- those that are safe -/
def safeOf (l : List (Key × FileM)) : List (Key × FileM) := l.filter fun q => q.2.whole
theorem safeOf_snoc (l : List (Key × FileM)) (q : Key × FileM) : safeOf (l ++ [q]) = safeOf l ++ (if q.2.whole = true then [q] else []) := by
  unfold safeOf
  rw [List.filter_append]
  congr 1
  by_cases h : q.2.whole = true
  · rw [if_pos h]; simp [h]
  · rw [if_neg h]; simp [h]
theorem safeE_of {es : List (Key × FV)} {d : DiskM} (hf : d.files = fmap FV.m es) (hup : Up d.files) {q : Key × FileM} (hq : q ∈ d.files) : safeE q.1 es = q.2.whole := by
  have hg := fget_of_mem hup hq
  rw [hf, fget_m] at hg
  unfold safeE
  cases h : fget q.1 es with
  | none => rw [h] at hg; cases hg
  | some v => rw [h] at hg; injection hg with hg; rw [← hg]
theorem safe_at' {w : World} {p mb : Nat} {d : DiskM} (h : Disk w p mb d) (hf : WFD d) {q : Key × FileM} (hq : q ∈ d.files) :
    Calls Try.prog 18 #[.pointer (some ⟨p, 0, none⟩), .string ⟨q.1.toArray⟩] w fun e w' => e = .returned (.bool q.2.whole) ∧ Below w.heap.size w w' := by
  obtain ⟨es, he, hd⟩ := h
  have hk := (hf.each q hq).2
  have h1 := safe_at hd ⟨q.1.toArray⟩ (by
    have : (⟨q.1.toArray⟩ : ByteArray).size = q.1.length := by simp [ByteArray.size]
    rw [this]; unfold maxLen; omega)
  have e : (⟨q.1.toArray⟩ : ByteArray).data.toList = q.1 := by simp
  rw [e, safeE_of he hf.up hq] at h1
  exact h1
theorem read_at' {w : World} {p mb : Nat} {d : DiskM} (h : Disk w p mb d) (hf : WFD d) (k : Key) (hk : k.length ≤ 40) (r : List UInt8 × Int) (hr : dRead d k = r) :
    Calls Try.prog 17 #[.pointer (some ⟨p, 0, none⟩), .string ⟨k.toArray⟩] w fun e w' => ∃ A c, e = .returned (.tuple #[.slice A r.1.length c, .int .i64 r.2]) ∧ Reads w' w'.heap.size 1 A r.1.length (u8s r.1) ∧ Below w.heap.size w w' := by
  have h1 := read_at h hf ⟨k.toArray⟩ (by
    have : (⟨k.toArray⟩ : ByteArray).size = k.length := by simp [ByteArray.size]
    rw [this]; unfold maxLen; omega)
  have e : (⟨k.toArray⟩ : ByteArray).data.toList = k := by simp
  rw [e, hr] at h1
  exact h1
theorem own_below {w w' : World} {B e size n : Nat} {v : Value} {xs : List Value} (h : w.ownsRow B e size v n xs) (hb : Below w.heap.size w w') : w'.ownsRow B e size v n xs := by
  obtain ⟨h1, h2⟩ := h
  refine ⟨h1, ?_⟩
  rcases h2 with h2 | ⟨g, cap, cur, hv, hg, hh, r⟩
  · exact .inl h2
  · exact .inr ⟨g, cap, cur, hv, hg, (hb.block g (Array.getElem?_eq_some_iff.1 hh).1).trans hh, r⟩
theorem Disk.names_but {V : Type} {w w' : World} {p mb : Nat} {d : DiskM} (h : Disk w p mb d) (hb : But p mb w w') {A : Option Addr} {n : Nat} {l : List (Key × V)} (hr : Reads w w.heap.size 1 A n (keyCells l)) : Reads w' w'.heap.size 1 A n (keyCells l) := by
  obtain ⟨es, _, hd⟩ := h
  exact hd.names_but hb hr
theorem string_info : (Try.prog.info? 9).map (fun i => (i.zero, i.size, i.bytes)) = some (some (.string ByteArray.empty), 1, 16) := by kernel_rfl
set_option maxHeartbeats 3200000 in
set_option maxRecDepth 100000 in
theorem diskSafe (cap : Int) (hcap : -9223372036854775808 ≤ cap ∧ cap ≤ 9223372036854775807) (A1 K1 K2 : Option Addr) (c1 k1 k2 : Nat) (l1 : List ActM) (ka kb : List Int) (w : World) (hr1 : Reads w w.heap.size 6 A1 l1.length (actCells l1))
    (ho1 : ∀ x ∈ l1, ActOk w w.heap.size x) (hm1 : ∀ x ∈ l1, ActSmall x 140737488355328) (hn1 : l1.length ≤ 140737488355328) (hra : Reads w w.heap.size 1 K1 ka.length (i64s ka)) (hrb : Reads w w.heap.size 1 K2 kb.length (i64s kb))
    (hva : ∀ v ∈ ka, -9223372036854775808 ≤ v ∧ v ≤ 9223372036854775807) (hvb : ∀ v ∈ kb, -9223372036854775808 ≤ v ∧ v ≤ 9223372036854775807) (hla : ka.length ≤ 140737488355328) (hlb : kb.length ≤ 140737488355328) :
    Calls Try.prog 5 #[.int .i64 cap, .slice A1 l1.length c1, .slice K1 ka.length k1, .slice K2 kb.length k2] w fun e w' => e = .returned (.bool true) ∧ Below w.heap.size w w' := by
  have R1 := Lib.hid hr1
  have O1 := Lib.hid ho1
  have M1 := Lib.hid hm1
  have RA := Lib.hid hra
  have RB := Lib.hid hrb
  have VA := Lib.hid hva
  have VB := Lib.hid hvb
  have HA := Lib.hid (awake_any w)
  clear hr1 ho1 hm1 hra hrb hva hvb
  cases hf1 : fewGo 60 0 0 l1 with
  | false =>
    have hfw : Hid (∀ w1, Below w.heap.size w w1 → Calls Try.prog 8 #[.slice A1 l1.length c1, .int .i64 60] w1 fun e w' => e = .returned (.bool false) ∧ Below w1.heap.size w1 w') := fun w1 hb => by
      have := few_any A1 c1 l1 60 (by omega) w1 w.heap.size (R1.out.below hb) (fun x hx => (O1.out x hx).below hb) M1.out hn1
      rw [hf1] at this; exact this
    clear hf1
    go_enter Try.func5, Try.ntmps5
    go_wp2_with fail
    refine HA.out.mono ?_
    rintro e w1 ⟨rfl, hb1⟩
    have HB1 := Lib.hid hb1
    clear hb1
    go_wp2_with fail
    refine (hfw.out w1 HB1.out).mono ?_
    rintro e w2 ⟨rfl, hb2⟩
    have HB2 := Lib.hid (HB1.out.trans (hb2.mono HB1.out.size))
    clear hb2
    go_wp2_with fail
    refine (awake_any _).mono ?_
    rintro e w3 ⟨rfl, hb3⟩
    have HB3 := Lib.hid (HB2.out.trans (hb3.mono HB2.out.size))
    clear hb3
    go_wp2
    go_ret
    exact ⟨rfl, HB3.out⟩
  | true =>
    obtain ⟨q1, q2⟩ := fewGo_some l1 0 0 hf1 (by omega)
    have hfw : Hid (∀ w1, Below w.heap.size w w1 → Calls Try.prog 8 #[.slice A1 l1.length c1, .int .i64 60] w1 fun e w' => e = .returned (.bool true) ∧ Below w1.heap.size w1 w') := fun w1 hb => by
      have := few_any A1 c1 l1 60 (by omega) w1 w.heap.size (R1.out.below hb) (fun x hx => (O1.out x hx).below hb) M1.out hn1
      rw [hf1] at this; exact this
    have hl1 : l1.length ≤ 60 := by omega
    have Q1 := Lib.hid q2
    clear hf1 q1 q2
    by_cases hmany : 200 < ka.length + kb.length
    · have hsum : (200 : Int) < (ka.length : Int) + (kb.length : Int) := by omega
      go_enter Try.func5, Try.ntmps5
      go_wp2_with fail
      refine HA.out.mono ?_
      rintro e w1 ⟨rfl, hb1⟩
      have HB1 := Lib.hid hb1
      clear hb1
      go_wp2_with fail
      refine (hfw.out w1 HB1.out).mono ?_
      rintro e w2 ⟨rfl, hb2⟩
      have HB2 := Lib.hid (HB1.out.trans (hb2.mono HB1.out.size))
      clear hb2
      go_wp2_with fail
      refine (awake_any _).mono ?_
      rintro e w3 ⟨rfl, hb3⟩
      have HB3 := Lib.hid (HB2.out.trans (hb3.mono HB2.out.size))
      clear hb3
      go_wp2
      go_ret
      exact ⟨rfl, HB3.out⟩
    · have hsum : ¬ (200 : Int) < (ka.length : Int) + (kb.length : Int) := by omega
      by_cases hbad : cap < 0 ∨ 4194304 < cap
      · go_enter Try.func5, Try.ntmps5
        go_wp2_with fail
        refine HA.out.mono ?_
        rintro e w1 ⟨rfl, hb1⟩
        have HB1 := Lib.hid hb1
        clear hb1
        go_wp2_with fail
        refine (hfw.out w1 HB1.out).mono ?_
        rintro e w2 ⟨rfl, hb2⟩
        have HB2 := Lib.hid (HB1.out.trans (hb2.mono HB1.out.size))
        clear hb2
        go_wp2_with fail
        refine (new_bad cap hbad _).mono ?_
        rintro e w4 ⟨rfl, rfl⟩
        go_wp2
        go_ret
        exact ⟨rfl, HB2.out⟩
      · obtain ⟨cn, rfl⟩ : ∃ cn : Nat, cap = cn := ⟨cap.toNat, by omega⟩
        have hcn : cn ≤ 4194304 := by omega
        clear hbad hcap
        go_enter Try.func5, Try.ntmps5
        go_wp2_with fail
        refine HA.out.mono ?_
        rintro e w1 ⟨rfl, hb1⟩
        have HB1 := Lib.hid hb1
        clear hb1
        go_wp2_with fail
        refine (hfw.out w1 HB1.out).mono ?_
        rintro e w3 ⟨rfl, hb3⟩
        have HB3 := Lib.hid (HB1.out.trans (hb3.mono HB1.out.size))
        clear hb3 HB1 hfw
        go_wp2_with fail
        refine (new_at cn hcn _).mono ?_
        rintro e w4 ⟨p, mb, rfl, hd, hp, hm, hb4⟩
        have HD : Hid (Disk w4 p mb (dNew cn)) := ⟨[], rfl, hd⟩
        have HB4 := Lib.hid (HB3.out.trans (hb4.mono HB3.out.size))
        have hbp : w.heap.size ≤ p := Nat.le_trans HB3.out.size hp
        have hbm : w.heap.size ≤ mb := Nat.le_trans HB3.out.size hm
        clear hd hb4 hp hm HB3
        go_wp2
        go_loopw [55] (fun v wr => ∃ (k : Nat) (d : DiskM), v = .int .i64 k ∧ k ≤ l1.length ∧ Hid (Disk wr p mb d) ∧ Hid (WFD d) ∧ d.files.length ≤ k ∧ Hid (Below w.heap.size w wr)) (fun v _ => l1.length - (intOf v).toNat)
        case atStart => exact ⟨0, _, rfl, by omega, HD, wfNew cn hcn, Nat.le_refl _, HB4⟩
        case round =>
          obtain ⟨k, d, rfl, hk, hd, hwf, hdl, hb⟩ := hrel
          by_cases hlt : k < l1.length
          · obtain ⟨x, hx⟩ : ∃ x, l1[k]? = some x := ⟨_, List.getElem?_eq_getElem hlt⟩
            have hxm := List.mem_of_getElem? hx
            obtain ⟨ad, rfl, _, hcs⟩ := (R1.out.below hb.out).2 (by omega)
            obtain ⟨k0, k1, k2, k3, k4, k5⟩ := act_at hcs hx
            have HO := Lib.hid ((O1.out x hxm).below hb.out)
            have hat := (O1.out x hxm).at_.2
            have HS := Lib.hid (Q1.out x hxm)
            have hsz : w.heap.size ≤ wr.heap.size := hb.out.size
            clear hx hxm hcs
            go_wp2_with fail
            refine (do_at hd.out hwf.out (by omega) x w.heap.size HO.out HS.out hsz hbp hbm).mono ?_
            rintro e w5 ⟨rfl, h5, hb5⟩
            have H5 := Lib.hid h5
            have HB5 := Lib.hid (hb.out.trans (hb5.toBelow hsz hbp hbm))
            have HW5 := Lib.hid (hwf.out.act x hat)
            have hl5 : (dAct d x).2.files.length ≤ k + 1 := Nat.le_trans (act_length hwf.out x) (by omega)
            clear h5 hb5 k0 k1 k2 k3 k4 k5
            generalize (dAct d x).2 = d5 at *
            generalize (dAct d x).1 = e5 at *
            go_wp2
            go_roundw
            case rel => exact ⟨k + 1, d5, by go_num, by omega, H5, HW5, hl5, HB5⟩
            case measure => simp [intOf]; omega
          · obtain rfl : k = l1.length := by omega
            have hd60 : d.files.length < 1000000 := by omega
            clear hk hlt HD HB4
            go_wp2_with fail
            refine (names_at hd.out hd60).mono ?_
            rintro e w5 ⟨N1, n1, rfl, hr1, hb5⟩
            have HD5 := Lib.hid (hd.out.below hb5)
            have HR5 := Lib.hid hr1
            have HB5 := Lib.hid (hb.out.trans (hb5.mono hb.out.size))
            clear hr1 hb5 hd hb
            obtain ⟨i0, hi0, hz0, hz1, hz2⟩ := info_parts string_info
            go_wp2
            go_loopw [12, 69] (fun u v wr => ∃ (k : Nat), v = .int .i64 k ∧ k ≤ d.files.length ∧ Hid (wr.ownsRow w5.heap.size 9 1 u (safeOf (d.files.take k)).length (keyCells (safeOf (d.files.take k)))) ∧ Hid (Disk wr p mb d) ∧ Hid (Below w5.heap.size w5 wr)) (fun _ v _ => d.files.length - (intOf v).toNat)
            case atStart => exact ⟨0, rfl, by omega, World.ownsRow_nil _ _ _ _, HD5, Below.refl _ _⟩
            case round =>
              obtain ⟨k, rfl, hk, hown, hd, hb⟩ := hrel
              by_cases hlt : k < d.files.length
              · obtain ⟨q, hq⟩ : ∃ q, d.files[k]? = some q := ⟨_, List.getElem?_eq_getElem hlt⟩
                have hqm := List.mem_of_getElem? hq
                have hkc : (keyCells d.files)[k]? = some (.string ⟨q.1.toArray⟩) := by unfold keyCells; rw [List.getElem?_map, hq]; rfl
                obtain ⟨a1, rfl, _, hs1⟩ := (HR5.out.below hb.out).2 (by omega)
                have j1 := hs1 _ _ hkc
                have J1 := Lib.hid j1
                have htk : d.files.take (k + 1) = d.files.take k ++ [q] := by rw [List.take_add_one, hq]; rfl
                have hsn : safeOf (d.files.take (k + 1)) = safeOf (d.files.take k) ++ (if q.2.whole = true then [q] else []) := by rw [htk, safeOf_snoc]
                have hsl : (safeOf (d.files.take k)).length ≤ 1000000 := by
                  have := List.length_filter_le (fun q : Key × FileM => q.2.whole) (d.files.take k)
                  rw [List.length_take] at this
                  unfold safeOf
                  omega
                have HS := Lib.hid (safe_at' hd.out hwf.out hqm)
                have hsz := hb.out.size
                clear hs1 hq hqm hkc htk
                generalize hbw : q.2.whole = bw at *
                cases bw with
                | false =>
                  rw [if_neg (by simp), List.append_nil] at hsn
                  have HSN := Lib.hid hsn
                  clear hsn
                  go_wp2_with fail
                  refine HS.out.mono ?_
                  rintro e w6 ⟨rfl, hb6⟩
                  have HD6 := Lib.hid (hd.out.below hb6)
                  have HO6 := Lib.hid (own_below hown.out hb6)
                  have HB6 := Lib.hid (hb.out.trans (hb6.mono hsz))
                  clear hb6 j1
                  go_wp2
                  go_roundw
                  case rel => exact ⟨k + 1, by go_num, by omega, by rw [HSN.out]; exact HO6, HD6, HB6⟩
                  case measure => simp [intOf]; omega
                | true =>
                  rw [if_pos rfl] at hsn
                  have HSN := Lib.hid hsn
                  clear hsn
                  go_wp2_with fail
                  refine HS.out.mono ?_
                  rintro e w6 ⟨rfl, hb6⟩
                  have HD6 := Lib.hid (hd.out.below hb6)
                  have HO6 := Lib.hid (own_below hown.out hb6)
                  have HB6 := Lib.hid (hb.out.trans (hb6.mono hsz))
                  have j6 : w6.cell? (a1.add k) = some (.string ⟨q.1.toArray⟩) := (hb6.cell (cell_lt J1.out)).trans J1.out
                  have hs6 := HB6.out.size
                  clear hb6 j1
                  generalize safeOf (d.files.take k) = S at *
                  have hN6 : Gives (w6.alloc (.cells #[.string ⟨q.1.toArray⟩] 9)) 1 (some ⟨w6.heap.size, 0, none⟩) 1 [.string ⟨q.1.toArray⟩] := by
                    refine ⟨rfl, fun _ => ⟨_, rfl, fun j u hj => ?_⟩, fun u hu => by simp at hu; subst hu; rfl⟩
                    match j, hj with
                    | 0, hj => injection hj with hj; subst hj; exact (Blk.new w6 9 #[.string ⟨q.1.toArray⟩]).cell 0
                    | j + 1, hj => simp at hj
                  go_wp2_with (first | (at_builtin; refine wpList_append_any _ rfl _ _ 43 rfl w5.heap.size 9 i0 _ 1 16 Try.underlying43 hi0 hz0 hz1 hz2 rfl (by omega) _ _ _ rfl (HO6.out.alloc _) (some ⟨w6.heap.size, 0, none⟩) 1 1 [.string ⟨q.1.toArray⟩] rfl hN6 ?c1 ?c2 ?c3 ?_))
                  case c1 => unfold maxLen; omega
                  case c2 => omega
                  case c3 => simp; omega
                  intro v7 w7 ho7 hg7
                  have hb7 : Below w5.heap.size w5 w7 := (HB6.out.alloc hs6 _).grown hg7 (by simp; omega) (fun g hg => (HO6.out.lt g hg).1)
                  have hd7 : Disk w7 p mb d := HD5.out.below hb7
                  have HO7 := Lib.hid ho7
                  have HB7 := Lib.hid hb7
                  have HD7 := Lib.hid hd7
                  clear ho7 hg7 hb7 hd7 hN6
                  go_wp2
                  go_roundw
                  case rel =>
                    refine ⟨k + 1, by go_num, by omega, ?_, HD7, HB7⟩
                    rw [HSN.out, show (S ++ [q]).length = S.length + 1 from by simp, show keyCells (S ++ [q]) = keyCells S ++ [.string ⟨q.1.toArray⟩] from by simp [keyCells]]
                    exact HO7.out
                  case measure => simp [intOf]; omega
              · obtain rfl : k = d.files.length := by omega
                rw [List.take_of_length_le (Nat.le_refl _)] at hown
                obtain ⟨SA, sc, rfl, hrs, _⟩ := own_reads hown.out
                have hlt0 := hd.out.lt
                have HRS := Lib.hid hrs
                have HB6 := Lib.hid (HB5.out.trans (hb.out.mono HB5.out.size))
                have hsz6 : w.heap.size ≤ wr.heap.size := HB6.out.size
                clear hrs hk hlt hown hb HD5 HR5 HB5
                go_wp2_with fail
                refine (clone_at hd.out hwf.out hd60).mono ?_
                rintro e w6 ⟨q1, o1, rfl, hc1, hq1, ho1, hb6⟩
                have HD6 := Lib.hid (hd.out.below hb6)
                have HC6 := Lib.hid hc1
                have HS6 := Lib.hid ((HRS.out.below hb6).more hb6.size)
                have HB7 := Lib.hid (HB6.out.trans (hb6.mono HB6.out.size))
                have hlt1 := hc1.lt
                have hne1 : q1 ≠ p ∧ o1 ≠ mb := ⟨by omega, by omega⟩
                have HNE1 : Hid (q1 ≠ p ∧ o1 ≠ mb) := hne1
                have hbq : w.heap.size ≤ q1 := by omega
                have hbo : w.heap.size ≤ o1 := by omega
                have hsz7 : w.heap.size ≤ w6.heap.size := HB7.out.size
                have hra6 : Reads w6 w.heap.size 1 K1 ka.length (i64s ka) := RA.out.below HB7.out
                have HRA6 := Lib.hid hra6
                clear hc1 hb6 hlt0 hlt1 hne1 hq1 ho1 hd HRS hra6
                go_wp2_with fail
                refine (restart_at HD6.out hwf.out hd60 w.heap.size K1 ka.length k1 ka rfl (by omega) VA.out HRA6.out hsz7 hbp hbm).mono ?_
                rintro e w7 ⟨rfl, h7, hb7⟩
                have HD7 := Lib.hid h7
                have HC7 := Lib.hid (HD6.out.other HC6.out hb7 HNE1.out.1 HNE1.out.2)
                have HS7 := Lib.hid (HD6.out.names_but hb7 HS6.out)
                have HB8 := Lib.hid (HB7.out.trans (hb7.toBelow hsz7 hbp hbm))
                have hsz8 : w.heap.size ≤ w7.heap.size := HB8.out.size
                have HRB7 := Lib.hid (RB.out.below HB8.out)
                clear h7 hb7
                go_wp2_with fail
                refine (restart_at HC7.out hwf.out hd60 w.heap.size K2 kb.length k2 kb rfl (by omega) VB.out HRB7.out hsz8 hbq hbo).mono ?_
                rintro e w8 ⟨rfl, h8, hb8⟩
                have HC8 := Lib.hid h8
                have HD8 := Lib.hid (HC7.out.other HD7.out hb8 (fun e => HNE1.out.1 e.symm) (fun e => HNE1.out.2 e.symm))
                have HS8 := Lib.hid (HC7.out.names_but hb8 HS7.out)
                have HB9 := Lib.hid (HB8.out.trans (hb8.toBelow hsz8 hbq hbo))
                have HWD := Lib.hid (hwf.out.restart ka)
                have HWC := Lib.hid (hwf.out.restart kb)
                have hmem : ∀ q ∈ safeOf d.files, q.1.length ≤ 40 ∧ dRead (dRestart d ka) q.1 = (q.2.b, 0) ∧ dRead (dRestart d kb) q.1 = (q.2.b, 0) := fun q hq => by
                  obtain ⟨h1, h2⟩ := List.mem_filter.1 hq
                  exact ⟨(hwf.out.each q h1).2, read_safe hwf.out ka h1 h2, read_safe hwf.out kb h1 h2⟩
                have HMEM : Hid (∀ q ∈ safeOf d.files, q.1.length ≤ 40 ∧ dRead (dRestart d ka) q.1 = (q.2.b, 0) ∧ dRead (dRestart d kb) q.1 = (q.2.b, 0)) := hmem
                have hsl : (safeOf d.files).length ≤ 1000000 := by
                  have := List.length_filter_le (fun q : Key × FileM => q.2.whole) d.files
                  unfold safeOf
                  omega
                have hlost : (dRestart d ka).lost = false := rfl
                have hall : ∀ q ∈ (dRestart d ka).files, q.1.length ≤ 40 ∧ dRead (dRestart d ka) q.1 = (q.2.b, 0) ∧ q.2.whole = true := fun q hq => ⟨(HWD.out.each q hq).2, read_there HWD.out rfl hq, restart_whole_all d ka q hq⟩
                have HALL : Hid (∀ q ∈ (dRestart d ka).files, q.1.length ≤ 40 ∧ dRead (dRestart d ka) q.1 = (q.2.b, 0) ∧ q.2.whole = true) := hall
                have hda : (dRestart d ka).files.length < 1000000 := Nat.lt_of_le_of_lt (length_restartL _ _ _) hd60
                have hag : dRestart (dRestart d ka) kb = dRestart d ka := restart_again d ka kb
                have HAG := Lib.hid hag
                have HLO := Lib.hid hlost
                clear h8 hb8 hmem hall hag hlost HD6 HC6 HS6 HC7 HD7 HS7 HB6 HB7 HB8
                generalize dRestart d ka = da at *
                generalize hdb : dRestart d kb = db at *
                clear hdb
                generalize safeOf d.files = S at *
                go_wp2
                go_loopw [96] (fun v wr => ∃ (k : Nat), v = .int .i64 k ∧ k ≤ S.length ∧ Hid (Disk wr p mb da) ∧ Hid (Disk wr q1 o1 db) ∧ Hid (Below w8.heap.size w8 wr)) (fun v _ => S.length - (intOf v).toNat)
                case atStart => exact ⟨0, rfl, by omega, HD8, HC8, Below.refl _ _⟩
                case round =>
                  obtain ⟨k, rfl, hk, hd, hx, hb⟩ := hrel
                  by_cases hlt : k < S.length
                  · obtain ⟨q, hq⟩ : ∃ q, S[k]? = some q := ⟨_, List.getElem?_eq_getElem hlt⟩
                    obtain ⟨hk40, hrd1, hrd2⟩ := HMEM.out q (List.mem_of_getElem? hq)
                    have hkc : (keyCells S)[k]? = some (.string ⟨q.1.toArray⟩) := by unfold keyCells; rw [List.getElem?_map, hq]; rfl
                    obtain ⟨a1, rfl, _, hs1⟩ := (HS8.out.below hb.out).2 (by omega)
                    have j1 := hs1 _ _ hkc
                    have J1 := Lib.hid j1
                    have HR1 := Lib.hid (read_at' hd.out HWD.out q.1 hk40 _ hrd1)
                    have HR2 : Hid (∀ w', Below wr.heap.size wr w' → Calls Try.prog 17 #[.pointer (some ⟨q1, 0, none⟩), .string ⟨q.1.toArray⟩] w' fun e w'' => ∃ A c, e = .returned (.tuple #[.slice A q.2.b.length c, .int .i64 0]) ∧ Reads w'' w''.heap.size 1 A q.2.b.length (u8s q.2.b) ∧ Below w'.heap.size w' w'') := fun w' hb' => read_at' (hx.out.below hb') HWC.out q.1 hk40 _ hrd2
                    clear hs1 hq hkc hrd1 hrd2
                    go_wp2_with fail
                    refine HR1.out.mono ?_
                    rintro e w11 ⟨B1, b1, rfl, hg1, hb11⟩
                    have HG11 := Lib.hid hg1
                    have HJ := Lib.hid hb11
                    have j1' : w11.cell? (a1.add k) = some (.string ⟨q.1.toArray⟩) := (hb11.cell (cell_lt J1.out)).trans J1.out
                    clear hg1 hb11 j1 HR1
                    go_wp2_with fail
                    refine (HR2.out w11 HJ.out).mono ?_
                    rintro e w12 ⟨B2, b2, rfl, hg2, hb12⟩
                    have hbj : Below wr.heap.size wr w12 := HJ.out.trans (hb12.mono HJ.out.size)
                    have HD12 := Lib.hid (hd.out.below hbj)
                    have HX12 := Lib.hid (hx.out.below hbj)
                    have HB12 := Lib.hid (hb.out.trans (hbj.mono hb.out.size))
                    have hg1 := (HG11.out.below hb12).more hb12.size
                    generalize q.2.b = bs at *
                    have v1 := conv_reads (w := w12) (c := b1) rfl hg1
                    have v2 := conv_reads (w := w12) (c := b2) rfl hg2
                    clear hg1 hg2 hb12 j1' hbj HR2
                    go_wp2
                    go_roundw
                    case rel => exact ⟨k + 1, by go_num, by omega, HD12, HX12, HB12⟩
                    case measure => simp [intOf]; omega
                  · obtain rfl : k = S.length := by omega
                    have HB10 := Lib.hid (HB9.out.trans (hb.out.mono HB9.out.size))
                    clear hk hlt hx hb HS8 HC8 HD8 HMEM hsl HB9
                    go_wp2_with fail
                    refine (names_at hd.out hda).mono ?_
                    rintro e w9 ⟨N2, n2, rfl, hr2, hb9⟩
                    have HD9 := Lib.hid (hd.out.below hb9)
                    have HN9 := Lib.hid hr2
                    have HB11 := Lib.hid (HB10.out.trans (hb9.mono HB10.out.size))
                    have hlt0 := HD9.out.lt
                    have hsz9 := HB11.out.size
                    clear hr2 hb9 hd HB10
                    go_wp2_with fail
                    refine (clone_at HD9.out HWD.out hda).mono ?_
                    rintro e w10 ⟨q2, o2, rfl, hc2, hq2, ho2, hb10⟩
                    have HD10 := Lib.hid (HD9.out.below hb10)
                    have HX10 := Lib.hid hc2
                    have HN10 := Lib.hid ((HN9.out.below hb10).more hb10.size)
                    have HB12 := Lib.hid (HB11.out.trans (hb10.mono HB11.out.size))
                    have hne2 : p ≠ q2 ∧ mb ≠ o2 := ⟨by omega, by omega⟩
                    have HNE2 : Hid (p ≠ q2 ∧ mb ≠ o2) := hne2
                    have hbq2 : w.heap.size ≤ q2 := by omega
                    have hbo2 : w.heap.size ≤ o2 := by omega
                    have hsz10 : w.heap.size ≤ w10.heap.size := HB12.out.size
                    have HRB10 := Lib.hid (RB.out.below HB12.out)
                    clear hc2 hb10 hne2 hq2 ho2 hlt0 hsz9
                    go_wp2_with fail
                    refine (restart_at HX10.out HWD.out hda w.heap.size K2 kb.length k2 kb rfl (by omega) VB.out HRB10.out hsz10 hbq2 hbo2).mono ?_
                    rintro e w11 ⟨rfl, h11, hb11⟩
                    rw [HAG.out] at h11
                    have HX11 := Lib.hid h11
                    have HD11 := Lib.hid (HX10.out.other HD10.out hb11 HNE2.out.1 HNE2.out.2)
                    have HN11 := Lib.hid (HX10.out.names_but hb11 HN10.out)
                    have HB13 := Lib.hid (HB12.out.trans (hb11.toBelow hsz10 hbq2 hbo2))
                    clear h11 hb11 HD9 HN9 HD10 HX10 HN10 HB12 HB11
                    go_wp2
                    go_loopw [140] (fun v wr => ∃ (k : Nat), v = .int .i64 k ∧ k ≤ da.files.length ∧ Hid (Below w11.heap.size w11 wr)) (fun v _ => da.files.length - (intOf v).toNat)
                    case atStart => exact ⟨0, rfl, by omega, Below.refl _ _⟩
                    case round =>
                      obtain ⟨k, rfl, hk, hb⟩ := hrel
                      by_cases hlt : k < da.files.length
                      · obtain ⟨q, hq⟩ : ∃ q, da.files[k]? = some q := ⟨_, List.getElem?_eq_getElem hlt⟩
                        have hqm := List.mem_of_getElem? hq
                        obtain ⟨hk40, hrd1, hwh⟩ := HALL.out q hqm
                        have hkc : (keyCells da.files)[k]? = some (.string ⟨q.1.toArray⟩) := by unfold keyCells; rw [List.getElem?_map, hq]; rfl
                        obtain ⟨a1, rfl, _, hs1⟩ := (HN11.out.below hb.out).2 (by omega)
                        have j1 := hs1 _ _ hkc
                        have J1 := Lib.hid j1
                        have HRA : Hid (∀ w', Below wr.heap.size wr w' → Calls Try.prog 17 #[.pointer (some ⟨p, 0, none⟩), .string ⟨q.1.toArray⟩] w' fun e w'' => ∃ A c, e = .returned (.tuple #[.slice A q.2.b.length c, .int .i64 0]) ∧ Reads w'' w''.heap.size 1 A q.2.b.length (u8s q.2.b) ∧ Below w'.heap.size w' w'') := fun w' hb' => read_at' ((HD11.out.below hb.out).below hb') HWD.out q.1 hk40 _ hrd1
                        have HRX : Hid (∀ w', Below wr.heap.size wr w' → Calls Try.prog 17 #[.pointer (some ⟨q2, 0, none⟩), .string ⟨q.1.toArray⟩] w' fun e w'' => ∃ A c, e = .returned (.tuple #[.slice A q.2.b.length c, .int .i64 0]) ∧ Reads w'' w''.heap.size 1 A q.2.b.length (u8s q.2.b) ∧ Below w'.heap.size w' w'') := fun w' hb' => read_at' ((HX11.out.below hb.out).below hb') HWD.out q.1 hk40 _ hrd1
                        have HRS : Hid (∀ w', Below wr.heap.size wr w' → Calls Try.prog 18 #[.pointer (some ⟨p, 0, none⟩), .string ⟨q.1.toArray⟩] w' fun e w'' => e = .returned (.bool true) ∧ Below w'.heap.size w' w'') := fun w' hb' => by
                          have h := safe_at' ((HD11.out.below hb.out).below hb') HWD.out hqm
                          rw [hwh] at h
                          exact h
                        clear hs1 hq hkc hrd1 hqm hwh
                        go_wp2_with fail
                        refine (HRA.out wr (Below.refl _ _)).mono ?_
                        rintro e w12 ⟨B1, b1, rfl, hg1, hb12⟩
                        have HG12 := Lib.hid hg1
                        have HJ := Lib.hid hb12
                        have j1' : w12.cell? (a1.add k) = some (.string ⟨q.1.toArray⟩) := (hb12.cell (cell_lt J1.out)).trans J1.out
                        have J2 := Lib.hid j1'
                        clear hg1 hb12 j1
                        go_wp2_with fail
                        refine (HRX.out w12 HJ.out).mono ?_
                        rintro e w13 ⟨B2, b2, rfl, hg2, hb13⟩
                        have HJ2 := Lib.hid (HJ.out.trans (hb13.mono HJ.out.size))
                        have HG13 := Lib.hid ((HG12.out.below hb13).more hb13.size)
                        have HH13 := Lib.hid hg2
                        have j2 : w13.cell? (a1.add k) = some (.string ⟨q.1.toArray⟩) := (hb13.cell (cell_lt J2.out)).trans J2.out
                        clear hg2 hb13 j1'
                        go_wp2_with fail
                        refine (HRS.out w13 HJ2.out).mono ?_
                        rintro e w14 ⟨rfl, hb14⟩
                        have hbj : Below wr.heap.size wr w14 := HJ2.out.trans (hb14.mono HJ2.out.size)
                        have HB14 := Lib.hid (hb.out.trans (hbj.mono hb.out.size))
                        have hg1 := (HG13.out.below hb14).more hb14.size
                        have hg2 := (HH13.out.below hb14).more hb14.size
                        generalize q.2.b = bs at *
                        have v1 := conv_reads (w := w14) (c := b1) rfl hg1
                        have v2 := conv_reads (w := w14) (c := b2) rfl hg2
                        clear hg1 hg2 hb14 hbj j2 HRA HRX HRS
                        go_wp2
                        go_roundw
                        case rel => exact ⟨k + 1, by go_num, by omega, HB14⟩
                        case measure => simp [intOf]; omega
                      · obtain rfl : k = da.files.length := by omega
                        have HD14 := Lib.hid (HD11.out.below hb.out)
                        have HX14 := Lib.hid (HX11.out.below hb.out)
                        have HB14 := Lib.hid (HB13.out.trans (hb.out.mono HB13.out.size))
                        have HLA := Lib.hid (lost_at p false wr (by rw [← HLO.out]; exact HD14.out.choose_spec.2.c3))
                        clear hb hk hlt
                        go_wp2_with fail
                        refine HLA.out.mono ?_
                        rintro e w15 ⟨rfl, rfl⟩
                        go_wp2_with fail
                        refine (names_at HX14.out hda).mono ?_
                        rintro e w16 ⟨N3, n3, rfl, _, hb16⟩
                        have HB16 := Lib.hid (HB14.out.trans (hb16.mono HB14.out.size))
                        clear hb16
                        go_wp2
                        go_ret
                        exact ⟨by simp, HB16.out⟩
end Go.Proofs.Ytplbclbeccoegaa
