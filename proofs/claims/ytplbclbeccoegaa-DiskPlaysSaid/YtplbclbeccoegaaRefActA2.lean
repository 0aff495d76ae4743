/-
  The document's disk: Append.
-/
import Derived.Test.YtplbclbeccoegaaRefActA
namespace Go.Proofs.Ytplbclbeccoegaa
open Go.RowKit Go.Maps
set_option maxRecDepth 100000 in
set_option maxHeartbeats 1600000 in
theorem ract_append_somezs {w : World} {B q cap n : Nat} {v : Value} {es : List (Key × FV)} {f : FV} {fuse fu : Int} (hfu : fu = if 0 < fuse then fuse - 1 else fuse) (hr : RefAt w B q v es cap fuse false) (hcap : cap ≤ 4194304) (hroom : used (fmap FV.m es) ≤ cap) (hB : B ≤ w.heap.size) (hle : es.length ≤ 90000) (hf0 : -1 ≤ fuse) (hf1 : fuse ≤ 9223372036854775807) (hz : fuse = 0)
    (a b : ByteArray) (ha : a.size ≤ 1000000000) (hrt : right a.data.toList = true) (hn : es[n]? = some (a.data.toList, f)) (at_ : Int) (da : Addr) (dc : Nat) (dl : List UInt8) (hdc : dl.length ≤ dc) (_hdn : dl.length ≤ 1000000) (hd : Reads w w.heap.size 1 (some da) dl.length (u8s dl)) (hfull : ¬ (cap - used (fmap FV.m es) < dl.length)) :
    Calls Try.prog 11 #[.pointer (some ⟨q, 0, none⟩), .int .i64 0, .string a, .string b, .int .i64 at_, .slice (some da) dl.length dc] w fun e w' => e = .returned (.int .i64 6) ∧ Ref w' B q ⟨cap, fput a.data.toList ⟨f.m.b ++ (dl.take (dl.length / 2)), f.m.safe, f.m.ever⟩ (fmap FV.m es), fu, true⟩ ∧ TBut B q w w' := by
  subst hz
  have c3 := hr.c3
  have HFU := Lib.hid hfu
  have HRT : Hid (∀ w, _) := fun w => refRight_any a ha w
  rw [hrt] at HRT
  have HRO := Lib.hid (refRoom_at hr hcap hroom (by omega))
  have hroc : (cap - used (fmap FV.m es) : Nat) ≤ 4194304 := by omega
  have hbl := Lib.hid (used_get (k := a.data.toList) (f := f.m) (l := fmap FV.m es) (by rw [fget_m, fget_of_get hr.up hn]; rfl))
  have HA := Lib.hid (at_some hr a hn (by omega))
  have hnl : n < es.length := (List.getElem?_eq_some_iff.1 hn).1
  have c1 := hr.c1
  have hq := hr.cells.lt
  have hfl : f.m.b.length ≤ 4194304 := Nat.le_trans hbl.out (by omega)
  clear hbl
  obtain ⟨A, c, rfl, hr4, hc4⟩ := hr.row.reads
  obtain ⟨ad, rfl, hadl, hcs⟩ := hr4.2 (by omega)
  obtain ⟨k0, k1, k2, k3⟩ := file_at hcs hn
  simp only at k0 k1 k2 k3
  rw [show (⟨a.data.toList.toArray⟩ : ByteArray) = a from by simp] at k0
  have hadl4 : (ad.add (n * 4)).block < w.heap.size := by rw [block_of_add]; exact hadl
  have j0 : (0 : Int) ≤ (n : Int) := by omega
  have j1 : (n : Int) < (es.length : Int) := by omega
  have HFR := Lib.hid (hr.bytes _ (List.mem_of_getElem? hn)).reads.1
  have HR := Lib.hid hr
  have HB := Lib.hid hB
  have HD := Lib.hid hd
  have hno := slice_no8 hr.row
  have HNO := Lib.hid hno
  clear hr hrt hd hno hfu hn hr4 hcs
  generalize (cap - used (fmap FV.m es) : Nat) = ro at *
  go_enter Try.func11, Try.ntmps11
  go_wp2_with fail
  refine HA.out.mono ?_
  rintro e w1 ⟨rfl, rfl⟩
  go_wp2_with fail
  refine (HRT.out _).mono ?_
  rintro e w2 ⟨rfl, rfl⟩
  go_wp2_with fail
  refine HRO.out.mono ?_
  rintro e w3 ⟨rfl, rfl⟩
  go_wp2_with fail
  have hbl : Blk (w3.alloc (.cells #[.string a, .slice f.a f.m.b.length f.c, .int .i64 (f.m.safe : Nat), .bool f.m.ever] 61)) w3.heap.size 61 #[.string a, .slice f.a f.m.b.length f.c, .int .i64 (f.m.safe : Nat), .bool f.m.ever] := Blk.new w3 61 _
  have hbx : Below w3.heap.size w3 (w3.alloc (.cells #[.string a, .slice f.a f.m.b.length f.c, .int .i64 (f.m.safe : Nat), .bool f.m.ever] 61)) := (Below.refl _ _).alloc (Nat.le_refl _) _
  have hx := HR.out.below hbx
  have hdx := HD.out.below hbx
  have hfx : Reads (w3.alloc (.cells #[.string a, .slice f.a f.m.b.length f.c, .int .i64 (f.m.safe : Nat), .bool f.m.ever] 61)) w3.heap.size 1 f.a f.m.b.length (u8s f.m.b) := HFR.out.below hbx
  have hne : ∀ g, (Value.slice (some ad) es.length c).ownBlock = some g → g ≠ w3.heap.size := fun g hg => by have := (HR.out.row.lt g hg).2; omega
  have hsx := hbx.size
  have hqx := HR.out.cells.lt
  generalize w3.alloc (.cells #[.string a, .slice f.a f.m.b.length f.c, .int .i64 (f.m.safe : Nat), .bool f.m.ever] 61) = wx at *
  refine (refBurns_only hx rfl hf0 hf1).mono ?_
  rintro e w4 ⟨rfl, h4, hb4, ho4⟩
  rw [show decide ((0 : Int) = 0) = true from rfl] at h4
  rw [show decide ((0 : Int) = 0) = true from rfl]
  rw [← HFU.out] at h4
  have hbl4 : Blk w4 w3.heap.size 61 #[.string a, .slice f.a f.m.b.length f.c, .int .i64 (f.m.safe : Nat), .bool f.m.ever] := (ho4 _ hbl.lt (by omega)).trans hbl
  have hd4 := hdx.only8 hsx hx.cells HNO.out ho4 hb4.size
  have hf4 := hfx.only8 hsx hx.cells HNO.out ho4 hb4.size
  have y1 : w4.cell? ⟨w3.heap.size, 1, none⟩ = some (.slice f.a f.m.b.length f.c) := by rw [hbl4.cell]; rfl
  have hlt4 : w3.heap.size < w4.heap.size := hbl4.lt
  have T4 := Lib.hid ((TBut.of_below hbx).trans hb4)
  have H4 := Lib.hid h4
  have HBL4 := Lib.hid hbl4
  have HD4 := Lib.hid hd4
  have HF4 := Lib.hid hf4
  have HNE := Lib.hid hne
  obtain ⟨i0', hi0, hz0, hz1, hz2⟩ := info_parts u8_info
  have hbe := (Below.refl w4.heap.size w4).alloc (Nat.le_refl _) (.cells #[] 5)
  clear hb4 ho4 hbl hbx hx hdx hfx hne hsx h4 hbl4 hd4 hf4
  go_wp2_with (first | (at_builtin; refine wpList_append_any _ rfl _ _ 33 rfl w4.heap.size 5 i0' _ 1 1 Try.underlying33 hi0 hz0 hz1 hz2 rfl (by omega) _ _ _ rfl (bytes_empty w4) f.a f.m.b.length f.c (u8s f.m.b) rfl (Gives.of_reads (HF4.out.below hbe) (u8s_one _)) ?c1 ?c2 hbe.size ?_))
  case c1 => unfold maxLen; first | omega | (simp only [List.length_nil]; omega)
  case c2 => first | omega | (simp only [List.length_nil]; omega)
  intro v5 w5 ho5 hg5
  have hb5 := hbe.grown hg5 hbe.size (fun k hk => ((bytes_empty w4).lt k hk).1)
  have HO5 := Lib.hid ho5
  have HB5 := Lib.hid hb5
  clear hbe hg5 ho5 hb5 y1
  go_wp2_with (first | (at_builtin; refine wpList_append_any _ rfl _ _ 33 rfl w4.heap.size 5 i0' _ 1 1 Try.underlying33 hi0 hz0 hz1 hz2 rfl (by omega) _ _ _ rfl HO5.out (some da) (dl.length / 2) dc (u8s (dl.take (dl.length / 2))) rfl (Gives.of_reads ((HD4.out.first8 (by omega)).below HB5.out) (u8s_one _)) ?c1 ?c2 HB5.out.size ?_))
  case c1 => unfold maxLen; first | omega | (simp only [List.length_nil]; omega)
  case c2 => first | omega | (simp only [List.length_nil]; omega)
  intro v6 w6 ho6 hg6
  have hb6 := HB5.out.grown hg6 HB5.out.size (fun k hk => (HO5.out.lt k hk).1)
  rw [← u8s_append] at ho6
  obtain ⟨l6, hl6⟩ : ∃ l6, l6 = f.m.b ++ (dl.take (dl.length / 2)) := ⟨_, rfl⟩
  rw [← hl6] at ho6
  have HL6 := Lib.hid hl6
  clear hl6
  obtain ⟨A6, c6, rfl, hf6⟩ := bytes_own ho6 f.m.safe f.m.ever
  have hbl6 := HBL4.out.below hb6 HBL4.out.lt
  have h6 := H4.out.below hb6
  have t6 := T4.out.below hb6
  have y0 : w6.cell? ⟨w3.heap.size, 0, none⟩ = some (.string a) := by rw [hbl6.cell]; rfl
  have y1 : w6.cell? ⟨w3.heap.size, 1, none⟩ = some (.slice f.a f.m.b.length f.c) := by rw [hbl6.cell]; rfl
  have y2 : w6.cell? ⟨w3.heap.size, 2, none⟩ = some (.int .i64 (f.m.safe : Nat)) := by rw [hbl6.cell]; rfl
  have y3 : w6.cell? ⟨w3.heap.size, 3, none⟩ = some (.bool f.m.ever) := by rw [hbl6.cell]; rfl
  have yf := hbl6.frozen 1
  have h7 := h6.setFile hbl6 HNE.out 1 (.slice A6 l6.length c6)
  have hf7 := hf6.setFile hbl6 1 (.slice A6 l6.length c6)
  have t7 := t6.setNew (ad := ⟨w3.heap.size, 1, none⟩) (Nat.le_refl _) (.slice A6 l6.length c6)
  have HP := Lib.hid (refPut_any h7 (Nat.le_trans HB.out t7.size) a (by omega) _ hf7)
  simp only at HP
  have T7 := Lib.hid t7
  clear hg6 ho6 hb6 hbl6 h6 t6 h7 hf7 t7 hf6 HF4 HD4 HO5 HB5
  go_wp2_with fail
  refine HP.out.mono ?_
  rintro e w8 ⟨rfl, ⟨v8, h8⟩, hb8⟩
  have c3' := h8.c3
  have H8 := Lib.hid h8
  have HB8 := Lib.hid (T7.out.trans hb8)
  clear h8 hb8 HP
  skip
  go_wp2
  go_ret
  refine ⟨rfl, ⟨v8, _, ?_, H8.out⟩, HB8.out⟩
  rw [fput_fmap, HL6.out]
  try rfl
set_option maxRecDepth 100000 in
set_option maxHeartbeats 1600000 in
theorem ract_append_somezn {w : World} {B q cap n : Nat} {v : Value} {es : List (Key × FV)} {f : FV} {fuse fu : Int} (hfu : fu = if 0 < fuse then fuse - 1 else fuse) (hr : RefAt w B q v es cap fuse false) (hcap : cap ≤ 4194304) (hroom : used (fmap FV.m es) ≤ cap) (hB : B ≤ w.heap.size) (hle : es.length ≤ 90000) (hf0 : -1 ≤ fuse) (hf1 : fuse ≤ 9223372036854775807) (hz : fuse = 0)
    (a b : ByteArray) (ha : a.size ≤ 1000000000) (hrt : right a.data.toList = true) (hn : es[n]? = some (a.data.toList, f)) (at_ : Int) (dc : Nat) (dl : List UInt8) (hdc : dl.length ≤ dc) (_hdn : dl.length ≤ 1000000) (hd : Reads w w.heap.size 1 (none : Option Addr) dl.length (u8s dl)) (hfull : ¬ (cap - used (fmap FV.m es) < dl.length)) :
    Calls Try.prog 11 #[.pointer (some ⟨q, 0, none⟩), .int .i64 0, .string a, .string b, .int .i64 at_, .slice (none : Option Addr) dl.length dc] w fun e w' => e = .returned (.int .i64 6) ∧ Ref w' B q ⟨cap, fput a.data.toList ⟨f.m.b ++ (dl.take (dl.length / 2)), f.m.safe, f.m.ever⟩ (fmap FV.m es), fu, true⟩ ∧ TBut B q w w' := by
  subst hz
  have c3 := hr.c3
  have HFU := Lib.hid hfu
  have HRT : Hid (∀ w, _) := fun w => refRight_any a ha w
  rw [hrt] at HRT
  have HRO := Lib.hid (refRoom_at hr hcap hroom (by omega))
  have hroc : (cap - used (fmap FV.m es) : Nat) ≤ 4194304 := by omega
  have hbl := Lib.hid (used_get (k := a.data.toList) (f := f.m) (l := fmap FV.m es) (by rw [fget_m, fget_of_get hr.up hn]; rfl))
  have HA := Lib.hid (at_some hr a hn (by omega))
  have hnl : n < es.length := (List.getElem?_eq_some_iff.1 hn).1
  have c1 := hr.c1
  have hq := hr.cells.lt
  have hfl : f.m.b.length ≤ 4194304 := Nat.le_trans hbl.out (by omega)
  clear hbl
  obtain ⟨A, c, rfl, hr4, hc4⟩ := hr.row.reads
  obtain ⟨ad, rfl, hadl, hcs⟩ := hr4.2 (by omega)
  obtain ⟨k0, k1, k2, k3⟩ := file_at hcs hn
  simp only at k0 k1 k2 k3
  rw [show (⟨a.data.toList.toArray⟩ : ByteArray) = a from by simp] at k0
  have hadl4 : (ad.add (n * 4)).block < w.heap.size := by rw [block_of_add]; exact hadl
  have j0 : (0 : Int) ≤ (n : Int) := by omega
  have j1 : (n : Int) < (es.length : Int) := by omega
  have HFR := Lib.hid (hr.bytes _ (List.mem_of_getElem? hn)).reads.1
  have HR := Lib.hid hr
  have HB := Lib.hid hB
  have HD := Lib.hid hd
  have hno := slice_no8 hr.row
  have HNO := Lib.hid hno
  clear hr hrt hd hno hfu hn hr4 hcs
  generalize (cap - used (fmap FV.m es) : Nat) = ro at *
  go_enter Try.func11, Try.ntmps11
  go_wp2_with fail
  refine HA.out.mono ?_
  rintro e w1 ⟨rfl, rfl⟩
  go_wp2_with fail
  refine (HRT.out _).mono ?_
  rintro e w2 ⟨rfl, rfl⟩
  go_wp2_with fail
  refine HRO.out.mono ?_
  rintro e w3 ⟨rfl, rfl⟩
  go_wp2_with fail
  have hbl : Blk (w3.alloc (.cells #[.string a, .slice f.a f.m.b.length f.c, .int .i64 (f.m.safe : Nat), .bool f.m.ever] 61)) w3.heap.size 61 #[.string a, .slice f.a f.m.b.length f.c, .int .i64 (f.m.safe : Nat), .bool f.m.ever] := Blk.new w3 61 _
  have hbx : Below w3.heap.size w3 (w3.alloc (.cells #[.string a, .slice f.a f.m.b.length f.c, .int .i64 (f.m.safe : Nat), .bool f.m.ever] 61)) := (Below.refl _ _).alloc (Nat.le_refl _) _
  have hx := HR.out.below hbx
  have hdx := HD.out.below hbx
  have hfx : Reads (w3.alloc (.cells #[.string a, .slice f.a f.m.b.length f.c, .int .i64 (f.m.safe : Nat), .bool f.m.ever] 61)) w3.heap.size 1 f.a f.m.b.length (u8s f.m.b) := HFR.out.below hbx
  have hne : ∀ g, (Value.slice (some ad) es.length c).ownBlock = some g → g ≠ w3.heap.size := fun g hg => by have := (HR.out.row.lt g hg).2; omega
  have hsx := hbx.size
  have hqx := HR.out.cells.lt
  generalize w3.alloc (.cells #[.string a, .slice f.a f.m.b.length f.c, .int .i64 (f.m.safe : Nat), .bool f.m.ever] 61) = wx at *
  refine (refBurns_only hx rfl hf0 hf1).mono ?_
  rintro e w4 ⟨rfl, h4, hb4, ho4⟩
  rw [show decide ((0 : Int) = 0) = true from rfl] at h4
  rw [show decide ((0 : Int) = 0) = true from rfl]
  rw [← HFU.out] at h4
  have hbl4 : Blk w4 w3.heap.size 61 #[.string a, .slice f.a f.m.b.length f.c, .int .i64 (f.m.safe : Nat), .bool f.m.ever] := (ho4 _ hbl.lt (by omega)).trans hbl
  have hd4 := hdx.only8 hsx hx.cells HNO.out ho4 hb4.size
  have hf4 := hfx.only8 hsx hx.cells HNO.out ho4 hb4.size
  have y1 : w4.cell? ⟨w3.heap.size, 1, none⟩ = some (.slice f.a f.m.b.length f.c) := by rw [hbl4.cell]; rfl
  have hlt4 : w3.heap.size < w4.heap.size := hbl4.lt
  have T4 := Lib.hid ((TBut.of_below hbx).trans hb4)
  have H4 := Lib.hid h4
  have HBL4 := Lib.hid hbl4
  have HD4 := Lib.hid hd4
  have HF4 := Lib.hid hf4
  have HNE := Lib.hid hne
  obtain ⟨i0', hi0, hz0, hz1, hz2⟩ := info_parts u8_info
  have hbe := (Below.refl w4.heap.size w4).alloc (Nat.le_refl _) (.cells #[] 5)
  clear hb4 ho4 hbl hbx hx hdx hfx hne hsx h4 hbl4 hd4 hf4
  go_wp2_with (first | (at_builtin; refine wpList_append_any _ rfl _ _ 33 rfl w4.heap.size 5 i0' _ 1 1 Try.underlying33 hi0 hz0 hz1 hz2 rfl (by omega) _ _ _ rfl (bytes_empty w4) f.a f.m.b.length f.c (u8s f.m.b) rfl (Gives.of_reads (HF4.out.below hbe) (u8s_one _)) ?c1 ?c2 hbe.size ?_))
  case c1 => unfold maxLen; first | omega | (simp only [List.length_nil]; omega)
  case c2 => first | omega | (simp only [List.length_nil]; omega)
  intro v5 w5 ho5 hg5
  have hb5 := hbe.grown hg5 hbe.size (fun k hk => ((bytes_empty w4).lt k hk).1)
  have HO5 := Lib.hid ho5
  have HB5 := Lib.hid hb5
  clear hbe hg5 ho5 hb5 y1
  go_wp2_with (first | (at_builtin; refine wpList_append_any _ rfl _ _ 33 rfl w4.heap.size 5 i0' _ 1 1 Try.underlying33 hi0 hz0 hz1 hz2 rfl (by omega) _ _ _ rfl HO5.out (none : Option Addr) (dl.length / 2) dc (u8s (dl.take (dl.length / 2))) rfl (Gives.of_reads ((HD4.out.first8 (by omega)).below HB5.out) (u8s_one _)) ?c1 ?c2 HB5.out.size ?_))
  case c1 => unfold maxLen; first | omega | (simp only [List.length_nil]; omega)
  case c2 => first | omega | (simp only [List.length_nil]; omega)
  intro v6 w6 ho6 hg6
  have hb6 := HB5.out.grown hg6 HB5.out.size (fun k hk => (HO5.out.lt k hk).1)
  rw [← u8s_append] at ho6
  obtain ⟨l6, hl6⟩ : ∃ l6, l6 = f.m.b ++ (dl.take (dl.length / 2)) := ⟨_, rfl⟩
  rw [← hl6] at ho6
  have HL6 := Lib.hid hl6
  clear hl6
  obtain ⟨A6, c6, rfl, hf6⟩ := bytes_own ho6 f.m.safe f.m.ever
  have hbl6 := HBL4.out.below hb6 HBL4.out.lt
  have h6 := H4.out.below hb6
  have t6 := T4.out.below hb6
  have y0 : w6.cell? ⟨w3.heap.size, 0, none⟩ = some (.string a) := by rw [hbl6.cell]; rfl
  have y1 : w6.cell? ⟨w3.heap.size, 1, none⟩ = some (.slice f.a f.m.b.length f.c) := by rw [hbl6.cell]; rfl
  have y2 : w6.cell? ⟨w3.heap.size, 2, none⟩ = some (.int .i64 (f.m.safe : Nat)) := by rw [hbl6.cell]; rfl
  have y3 : w6.cell? ⟨w3.heap.size, 3, none⟩ = some (.bool f.m.ever) := by rw [hbl6.cell]; rfl
  have yf := hbl6.frozen 1
  have h7 := h6.setFile hbl6 HNE.out 1 (.slice A6 l6.length c6)
  have hf7 := hf6.setFile hbl6 1 (.slice A6 l6.length c6)
  have t7 := t6.setNew (ad := ⟨w3.heap.size, 1, none⟩) (Nat.le_refl _) (.slice A6 l6.length c6)
  have HP := Lib.hid (refPut_any h7 (Nat.le_trans HB.out t7.size) a (by omega) _ hf7)
  simp only at HP
  have T7 := Lib.hid t7
  clear hg6 ho6 hb6 hbl6 h6 t6 h7 hf7 t7 hf6 HF4 HD4 HO5 HB5
  go_wp2_with fail
  refine HP.out.mono ?_
  rintro e w8 ⟨rfl, ⟨v8, h8⟩, hb8⟩
  have c3' := h8.c3
  have H8 := Lib.hid h8
  have HB8 := Lib.hid (T7.out.trans hb8)
  clear h8 hb8 HP
  skip
  go_wp2
  go_ret
  refine ⟨rfl, ⟨v8, _, ?_, H8.out⟩, HB8.out⟩
  rw [fput_fmap, HL6.out]
  try rfl
set_option maxRecDepth 100000 in
set_option maxHeartbeats 1600000 in
theorem ract_append_nonezzs {w : World} {B q cap : Nat} {v : Value} {es : List (Key × FV)} {fuse fu : Int} (hfu : fu = if 0 < fuse then fuse - 1 else fuse) (hr : RefAt w B q v es cap fuse false) (hcap : cap ≤ 4194304) (hroom : used (fmap FV.m es) ≤ cap) (hB : B ≤ w.heap.size) (hle : es.length ≤ 90000) (hf0 : -1 ≤ fuse) (hf1 : fuse ≤ 9223372036854775807) (hz : fuse = 0)
    (a b : ByteArray) (ha : a.size ≤ 1000000000) (hrt : right a.data.toList = true) (hg : fget a.data.toList es = none) (at_ : Int) (da : Addr) (dc : Nat) (dl : List UInt8) (_hdc : dl.length ≤ dc) (_hdn : dl.length ≤ 1000000) (hd : Reads w w.heap.size 1 (some da) dl.length (u8s dl)) (hfull : ¬ (cap - used (fmap FV.m es) < dl.length)) (hhalf : dl.length / 2 = 0) :
    Calls Try.prog 11 #[.pointer (some ⟨q, 0, none⟩), .int .i64 0, .string a, .string b, .int .i64 at_, .slice (some da) dl.length dc] w fun e w' => e = .returned (.int .i64 6) ∧ Ref w' B q ⟨cap, fmap FV.m es, fu, true⟩ ∧ TBut B q w w' := by
  subst hz
  have c3 := hr.c3
  have HFU := Lib.hid hfu
  have HRT : Hid (∀ w, _) := fun w => refRight_any a ha w
  rw [hrt] at HRT
  have HRO := Lib.hid (refRoom_at hr hcap hroom (by omega))
  have hroc : (cap - used (fmap FV.m es) : Nat) ≤ 4194304 := by omega
  have HA := Lib.hid (at_none hr a hg (by omega))
  have HR := Lib.hid hr
  have HB := Lib.hid hB
  have HD := Lib.hid hd
  have hno := slice_no8 hr.row
  have HNO := Lib.hid hno
  clear hr hrt hd hno hfu hg
  have hh2 : (((dl.length / 2 : Nat) : Int) == 0) = true := by simp; omega
  generalize (cap - used (fmap FV.m es) : Nat) = ro at *
  go_enter Try.func11, Try.ntmps11
  go_wp2_with fail
  refine HA.out.mono ?_
  rintro e w1 ⟨rfl, rfl⟩
  go_wp2_with fail
  refine (HRT.out _).mono ?_
  rintro e w2 ⟨rfl, rfl⟩
  go_wp2_with fail
  refine HRO.out.mono ?_
  rintro e w3 ⟨rfl, rfl⟩
  go_wp2_with fail
  have hbl : Blk (w3.alloc (.cells #[.string a, .slice none 0 0, .int .i64 0, .bool false] 61)) w3.heap.size 61 #[.string a, .slice none 0 0, .int .i64 0, .bool false] := Blk.new w3 61 _
  have hbx : Below w3.heap.size w3 (w3.alloc (.cells #[.string a, .slice none 0 0, .int .i64 0, .bool false] 61)) := (Below.refl _ _).alloc (Nat.le_refl _) _
  have hx := HR.out.below hbx
  have hdx := HD.out.below hbx
  have hfx : Reads (w3.alloc (.cells #[.string a, .slice none 0 0, .int .i64 0, .bool false] 61)) w3.heap.size 1 none ([] : List UInt8).length (u8s ([] : List UInt8)) := Reads.none_
  have hne : ∀ g, v.ownBlock = some g → g ≠ w3.heap.size := fun g hg => by have := (HR.out.row.lt g hg).2; omega
  have hsx := hbx.size
  have hqx := HR.out.cells.lt
  generalize w3.alloc (.cells #[.string a, .slice none 0 0, .int .i64 0, .bool false] 61) = wx at *
  refine (refBurns_only hx rfl hf0 hf1).mono ?_
  rintro e w4 ⟨rfl, h4, hb4, ho4⟩
  rw [show decide ((0 : Int) = 0) = true from rfl] at h4
  rw [show decide ((0 : Int) = 0) = true from rfl]
  rw [← HFU.out] at h4
  have T4 := Lib.hid ((TBut.of_below hbx).trans hb4)
  have H4 := Lib.hid h4
  clear hb4 ho4 hbl hbx hx hdx hfx hne hsx h4
  go_wp2
  go_ret
  exact ⟨rfl, ⟨v, es, rfl, H4.out⟩, T4.out⟩
set_option maxRecDepth 100000 in
set_option maxHeartbeats 1600000 in
theorem ract_append_nonezzn {w : World} {B q cap : Nat} {v : Value} {es : List (Key × FV)} {fuse fu : Int} (hfu : fu = if 0 < fuse then fuse - 1 else fuse) (hr : RefAt w B q v es cap fuse false) (hcap : cap ≤ 4194304) (hroom : used (fmap FV.m es) ≤ cap) (hB : B ≤ w.heap.size) (hle : es.length ≤ 90000) (hf0 : -1 ≤ fuse) (hf1 : fuse ≤ 9223372036854775807) (hz : fuse = 0)
    (a b : ByteArray) (ha : a.size ≤ 1000000000) (hrt : right a.data.toList = true) (hg : fget a.data.toList es = none) (at_ : Int) (dc : Nat) (dl : List UInt8) (_hdc : dl.length ≤ dc) (_hdn : dl.length ≤ 1000000) (hd : Reads w w.heap.size 1 (none : Option Addr) dl.length (u8s dl)) (hfull : ¬ (cap - used (fmap FV.m es) < dl.length)) (hhalf : dl.length / 2 = 0) :
    Calls Try.prog 11 #[.pointer (some ⟨q, 0, none⟩), .int .i64 0, .string a, .string b, .int .i64 at_, .slice (none : Option Addr) dl.length dc] w fun e w' => e = .returned (.int .i64 6) ∧ Ref w' B q ⟨cap, fmap FV.m es, fu, true⟩ ∧ TBut B q w w' := by
  subst hz
  have c3 := hr.c3
  have HFU := Lib.hid hfu
  have HRT : Hid (∀ w, _) := fun w => refRight_any a ha w
  rw [hrt] at HRT
  have HRO := Lib.hid (refRoom_at hr hcap hroom (by omega))
  have hroc : (cap - used (fmap FV.m es) : Nat) ≤ 4194304 := by omega
  have HA := Lib.hid (at_none hr a hg (by omega))
  have HR := Lib.hid hr
  have HB := Lib.hid hB
  have HD := Lib.hid hd
  have hno := slice_no8 hr.row
  have HNO := Lib.hid hno
  clear hr hrt hd hno hfu hg
  have hh2 : (((dl.length / 2 : Nat) : Int) == 0) = true := by simp; omega
  generalize (cap - used (fmap FV.m es) : Nat) = ro at *
  go_enter Try.func11, Try.ntmps11
  go_wp2_with fail
  refine HA.out.mono ?_
  rintro e w1 ⟨rfl, rfl⟩
  go_wp2_with fail
  refine (HRT.out _).mono ?_
  rintro e w2 ⟨rfl, rfl⟩
  go_wp2_with fail
  refine HRO.out.mono ?_
  rintro e w3 ⟨rfl, rfl⟩
  go_wp2_with fail
  have hbl : Blk (w3.alloc (.cells #[.string a, .slice none 0 0, .int .i64 0, .bool false] 61)) w3.heap.size 61 #[.string a, .slice none 0 0, .int .i64 0, .bool false] := Blk.new w3 61 _
  have hbx : Below w3.heap.size w3 (w3.alloc (.cells #[.string a, .slice none 0 0, .int .i64 0, .bool false] 61)) := (Below.refl _ _).alloc (Nat.le_refl _) _
  have hx := HR.out.below hbx
  have hdx := HD.out.below hbx
  have hfx : Reads (w3.alloc (.cells #[.string a, .slice none 0 0, .int .i64 0, .bool false] 61)) w3.heap.size 1 none ([] : List UInt8).length (u8s ([] : List UInt8)) := Reads.none_
  have hne : ∀ g, v.ownBlock = some g → g ≠ w3.heap.size := fun g hg => by have := (HR.out.row.lt g hg).2; omega
  have hsx := hbx.size
  have hqx := HR.out.cells.lt
  generalize w3.alloc (.cells #[.string a, .slice none 0 0, .int .i64 0, .bool false] 61) = wx at *
  refine (refBurns_only hx rfl hf0 hf1).mono ?_
  rintro e w4 ⟨rfl, h4, hb4, ho4⟩
  rw [show decide ((0 : Int) = 0) = true from rfl] at h4
  rw [show decide ((0 : Int) = 0) = true from rfl]
  rw [← HFU.out] at h4
  have T4 := Lib.hid ((TBut.of_below hbx).trans hb4)
  have H4 := Lib.hid h4
  clear hb4 ho4 hbl hbx hx hdx hfx hne hsx h4
  go_wp2
  go_ret
  exact ⟨rfl, ⟨v, es, rfl, H4.out⟩, T4.out⟩
end Go.Proofs.Ytplbclbeccoegaa
