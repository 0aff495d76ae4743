/-
  The document's disk: Harm.
-/
import Derived.Test.YtplbclbeccoegaaRefActS
namespace Go.Proofs.Ytplbclbeccoegaa
open Go.RowKit Go.Maps
theorem own_mono {w : World} {base base' : Nat} {e : TypeId} {size : Nat} {v : Value} {n : Nat} {xs : List Value} (h : w.ownsRow base e size v n xs) (hb : base' ≤ base) : w.ownsRow base' e size v n xs := by
  refine ⟨h.1, ?_⟩
  rcases h.2 with h0 | ⟨g, cap, cur, e, hb', hr⟩
  · exact .inl h0
  · exact .inr ⟨g, cap, cur, e, Nat.le_trans hb hb', hr⟩
theorem bytes_empty (w : World) : (w.alloc (.cells #[] 5)).ownsRow w.heap.size 5 1 (.slice (some ⟨w.heap.size, 0, none⟩) 0 0) 0 [] := World.ownsRow_lit w #[] 0 (Nat.le_refl _) (by unfold maxLen; omega) rfl
theorem bytes_of_own {w : World} {base n : Nat} {v : Value} {l : List UInt8} (h : w.ownsRow base 5 1 v n (u8s l)) (m : FileM) (hm : m.b = l) : ∃ A c, v = .slice A n c ∧ n = l.length ∧ Bytes8 w ⟨m, A, c⟩ := by
  have hn : n = l.length := by have := h.1; rw [u8s_length] at this; omega
  subst hn hm
  obtain ⟨A, c, rfl, _, _⟩ := own_reads h
  exact ⟨A, c, rfl, rfl, own_mono h (Nat.zero_le _)⟩
def lenAt (k : Key) (es : List (Key × FV)) : Nat := match fget k es with | some f => f.m.b.length | none => 0
set_option maxRecDepth 100000 in
set_option maxHeartbeats 1600000 in
theorem ract_harm {w : World} {B q : Nat} {d : DiskM} (h : Ref w B q d) (hf : WFD d) (hB : B ≤ w.heap.size) (hN : d.files.length ≤ 90000) (a b : ByteArray) (ha : a.size ≤ 1000000000) (at_ : Int) (dA : Option Addr) (dn dc : Nat) (dl : List UInt8) (hdl : dl.length = dn) (hdn : dn ≤ 1000000) (hd : Reads w w.heap.size 1 dA dn (u8s dl)) :
    Calls Try.prog 11 #[.pointer (some ⟨q, 0, none⟩), .int .i64 5, .string a, .string b, .int .i64 at_, .slice dA dn dc] w fun e w' => e = .returned (.int .i64 (dHarm d a.data.toList dl).1) ∧ Ref w' B q (dHarm d a.data.toList dl).2 ∧ TBut B q w w' := by
  subst hdl
  unfold dHarm
  by_cases hl : d.lost = true
  · rw [if_pos hl]
    exact (ract_lost h hl _ _ _ _ _ _ _).mono fun e w' ⟨h1, h2⟩ => by subst h2; exact ⟨h1, h, TBut.refl _ _ _⟩
  rw [if_neg hl]
  have hcap := hf.cap
  have hroom := hf.room
  obtain ⟨cap, files, fuse, lost⟩ := d
  obtain ⟨v, es, hfi, hr⟩ := h
  obtain rfl : files = fmap FV.m es := hfi
  have hle : es.length ≤ 90000 := by simpa [fmap] using hN
  simp only at hl hr hcap hroom
  obtain rfl : lost = false := by simpa using hl
  have c3 := hr.c3
  have c1 := hr.c1
  have HR := Lib.hid hr
  have HB := Lib.hid hB
  have HRT : Hid (∀ w, _) := fun w => refRight_any a ha w
  have HRO := Lib.hid (refRoom_at hr hcap hroom (by omega))
  have HD := Lib.hid hd
  obtain ⟨i0, hi0, hz0, hz1, hz2⟩ := info_parts u8_info
  clear hl hf hB hN hd
  cases hrt : right a.data.toList with
  | false =>
    rw [if_pos rfl]
    rw [hrt] at HRT
    obtain ⟨i, Ha⟩ := at_any hr a (by omega)
    have HA := Lib.hid Ha
    clear hr Ha hrt c1
    go_enter Try.func11, Try.ntmps11
    go_wp2_with fail
    refine HA.out.mono ?_
    rintro e w1 ⟨rfl, rfl⟩
    go_wp2_with fail
    refine (HRT.out _).mono ?_
    rintro e w2 ⟨rfl, rfl⟩
    go_wp2
    go_ret
    exact ⟨rfl, ⟨v, es, rfl, HR.out⟩, TBut.refl _ _ _⟩
  | true =>
    rw [if_neg (by simp)]
    rw [hrt] at HRT
    have hlen : DiskM.len ⟨cap, fmap FV.m es, fuse, false⟩ a.data.toList = lenAt a.data.toList es := by
      unfold DiskM.len lenAt
      simp only [fget_m]
      cases fget a.data.toList es <;> rfl
    rw [hlen]
    have hro : DiskM.room ⟨cap, fmap FV.m es, fuse, false⟩ = cap - used (fmap FV.m es) := rfl
    rw [hro]
    have hroc : (cap - used (fmap FV.m es) : Nat) ≤ 4194304 := by omega
    cases hg : fget a.data.toList es with
    | none =>
      have HA := Lib.hid (at_none hr a hg (by omega))
      have e0 : lenAt a.data.toList es = 0 := by unfold lenAt; rw [hg]
      rw [e0]
      clear hr hg hrt hlen hro e0 c1
      generalize (cap - used (fmap FV.m es) : Nat) = ro at *
      by_cases hfull : ro + 0 < dl.length
      · rw [if_pos hfull]
        go_enter Try.func11, Try.ntmps11
        go_wp2_with fail
        refine HA.out.mono ?_
        rintro e w1 ⟨rfl, rfl⟩
        go_wp2_with fail
        refine (HRT.out _).mono ?_
        rintro e w2 ⟨rfl, rfl⟩
        go_wp2_with fail
        refine HRO.out.mono ?_
        rintro e w3 ⟨rfl, rfl⟩
        go_wp2
        go_ret
        exact ⟨rfl, ⟨v, es, rfl, HR.out⟩, TBut.refl _ _ _⟩
      · rw [if_neg hfull]
        go_enter Try.func11, Try.ntmps11
        go_wp2_with fail
        refine HA.out.mono ?_
        rintro e w1 ⟨rfl, rfl⟩
        go_wp2_with fail
        refine (HRT.out _).mono ?_
        rintro e w2 ⟨rfl, rfl⟩
        go_wp2_with fail
        refine HRO.out.mono ?_
        rintro e w3 ⟨rfl, rfl⟩
        have hbe := (Below.refl w3.heap.size w3).alloc (Nat.le_refl _) (.cells #[] 5)
        go_wp2_with (first | (at_builtin; refine wpList_append_any _ rfl _ _ 33 rfl w3.heap.size 5 i0 _ 1 1 Try.underlying33 hi0 hz0 hz1 hz2 rfl (by omega) _ _ _ rfl (bytes_empty w3) dA dl.length dc (u8s dl) rfl (Gives.of_reads (HD.out.below hbe) (u8s_one dl)) ?c1 ?c2 hbe.size ?_))
        case c1 => unfold maxLen; omega
        case c2 => omega
        intro v4 w4 ho4 hg4
        have hb4 := hbe.grown hg4 hbe.size (fun k hk => ((bytes_empty w3).lt k hk).1)
        obtain ⟨A4, c4, rfl, hn4, hf4⟩ := bytes_of_own (l := dl) ho4 ⟨dl, dl.length, true⟩ rfl
        have HP := Lib.hid (refPut_any (HR.out.below hb4) (Nat.le_trans HB.out hb4.size) a (by omega) _ hf4)
        simp only at HP ⊢
        have HB4 := Lib.hid hb4
        clear ho4 hg4 hb4 hbe hf4
        go_wp2_with fail
        refine HP.out.mono ?_
        rintro e w5 ⟨rfl, ⟨v5, h5⟩, hb5⟩
        have H5 := Lib.hid h5
        have HB5 := Lib.hid ((TBut.of_below HB4.out).trans hb5)
        clear h5 hb5 HP
        go_wp2
        go_ret
        exact ⟨rfl, ⟨v5, _, (fput_fmap FV.m _ (⟨⟨dl, dl.length, true⟩, A4, c4⟩ : FV) es).symm, H5.out⟩, HB5.out⟩
    | some f =>
      obtain ⟨n, hn⟩ := get_of_fget hg
      have HA := Lib.hid (at_some hr a hn (by omega))
      have hnl : n < es.length := (List.getElem?_eq_some_iff.1 hn).1
      obtain ⟨A, c, rfl, hr4, hc4⟩ := hr.row.reads
      obtain ⟨ad, rfl, hadl, hcs⟩ := hr4.2 (by omega)
      obtain ⟨_, k1, _, _⟩ := file_at hcs hn
      have i0' : (0 : Int) ≤ (n : Int) := by omega
      have i1' : (n : Int) < (es.length : Int) := by omega
      have hbl : f.m.b.length ≤ 4194304 := by
        have := used_get (k := a.data.toList) (f := f.m) (l := fmap FV.m es) (by rw [fget_m, hg]; rfl)
        omega
      have e0 : lenAt a.data.toList es = f.m.b.length := by unfold lenAt; rw [hg]
      rw [e0]
      simp only at k1
      clear hr hg hrt hlen hro e0 hn hr4 hcs
      generalize (cap - used (fmap FV.m es) : Nat) = ro at *
      by_cases hfull : ro + f.m.b.length < dl.length
      · rw [if_pos hfull]
        go_enter Try.func11, Try.ntmps11
        go_wp2_with fail
        refine HA.out.mono ?_
        rintro e w1 ⟨rfl, rfl⟩
        go_wp2_with fail
        refine (HRT.out _).mono ?_
        rintro e w2 ⟨rfl, rfl⟩
        go_wp2_with fail
        refine HRO.out.mono ?_
        rintro e w3 ⟨rfl, rfl⟩
        go_wp2
        go_ret
        exact ⟨rfl, ⟨_, es, rfl, HR.out⟩, TBut.refl _ _ _⟩
      · rw [if_neg hfull]
        go_enter Try.func11, Try.ntmps11
        go_wp2_with fail
        refine HA.out.mono ?_
        rintro e w1 ⟨rfl, rfl⟩
        go_wp2_with fail
        refine (HRT.out _).mono ?_
        rintro e w2 ⟨rfl, rfl⟩
        go_wp2_with fail
        refine HRO.out.mono ?_
        rintro e w3 ⟨rfl, rfl⟩
        have hbe := (Below.refl w3.heap.size w3).alloc (Nat.le_refl _) (.cells #[] 5)
        go_wp2_with (first | (at_builtin; refine wpList_append_any _ rfl _ _ 33 rfl w3.heap.size 5 i0 _ 1 1 Try.underlying33 hi0 hz0 hz1 hz2 rfl (by omega) _ _ _ rfl (bytes_empty w3) dA dl.length dc (u8s dl) rfl (Gives.of_reads (HD.out.below hbe) (u8s_one dl)) ?c1 ?c2 hbe.size ?_))
        case c1 => unfold maxLen; omega
        case c2 => omega
        intro v4 w4 ho4 hg4
        have hb4 := hbe.grown hg4 hbe.size (fun k hk => ((bytes_empty w3).lt k hk).1)
        obtain ⟨A4, c4, rfl, hn4, hf4⟩ := bytes_of_own (l := dl) ho4 ⟨dl, dl.length, true⟩ rfl
        have HP := Lib.hid (refPut_any (HR.out.below hb4) (Nat.le_trans HB.out hb4.size) a (by omega) _ hf4)
        simp only at HP ⊢
        have HB4 := Lib.hid hb4
        clear ho4 hg4 hb4 hbe hf4
        go_wp2_with fail
        refine HP.out.mono ?_
        rintro e w5 ⟨rfl, ⟨v5, h5⟩, hb5⟩
        have H5 := Lib.hid h5
        have HB5 := Lib.hid ((TBut.of_below HB4.out).trans hb5)
        clear h5 hb5 HP
        go_wp2
        go_ret
        exact ⟨rfl, ⟨v5, _, (fput_fmap FV.m _ (⟨⟨dl, dl.length, true⟩, A4, c4⟩ : FV) es).symm, H5.out⟩, HB5.out⟩
end Go.Proofs.Ytplbclbeccoegaa
