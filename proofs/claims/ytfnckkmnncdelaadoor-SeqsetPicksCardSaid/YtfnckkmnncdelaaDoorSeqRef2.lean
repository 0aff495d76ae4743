/-
  Walk of the document's answer's split.
-/
import Derived.Test.YtfnckkmnncdelaaDoorSeqRef1
import Derived.Laws.OwnMore
import Derived.Deep.AppendLies
import Derived.OwnWalk
namespace Go.Proofs.YtfnckkmnncdelaaDoor
open Go.RowKit
/-- a row of texts -/
def sv (p : List UInt8) : Value := .string ⟨p.toArray⟩
def svs (L : List (List UInt8)) : List Value := L.map sv
theorem string_info : (Tryd.prog.info? 9).map (fun i => (i.zero, i.size, i.bytes)) = some (some (.string ByteArray.empty), 1, 16) := by kernel_rfl
theorem svs_one (L : List (List UInt8)) : ∀ u ∈ svs L, u.oneCell' = true := by
  intro u hu
  simp only [svs, List.mem_map] at hu
  obtain ⟨p, _, rfl⟩ := hu
  rfl
theorem svs_last (L : List (List UInt8)) (q : List UInt8) : (svs L).set (L.length - 1) (sv q) = svs (L.dropLast ++ [q]) ∨ L = [] := by
  rcases Decidable.em (L = []) with h | h
  · exact .inr h
  · refine .inl ?_
    obtain ⟨M, x, rfl⟩ : ∃ M x, L = M ++ [x] := ⟨L.dropLast, L.getLast h, (List.dropLast_concat_getLast h).symm⟩
    simp [svs]
theorem sv_push (p : List UInt8) (s : ByteArray) (k : Nat) (h : k < s.size) : (⟨p.toArray⟩ : ByteArray) ++ s.extract k (k + 1) = ⟨(p ++ [s[k]]).toArray⟩ := by
  apply ByteArray.ext
  apply Array.ext'
  simp only [ByteArray.data_append, ByteArray.data_extract, Array.toList_append, Array.toList_extract]
  have : (List.drop k s.data.toList).take 1 = [s[k]] := by
    have hl : k < s.data.toList.length := h
    rw [List.drop_eq_getElem_cons hl]
    rfl
  simp [List.extract, this]
def lastP (L : List (List UInt8)) : List UInt8 := L.getLast?.getD []
theorem split_next (c : UInt8) (s : ByteArray) (k : Nat) (h : k < s.size) (hc : s[k] ≠ c) : splitC c (s.data.toList.take (k + 1)) = (splitC c (s.data.toList.take k)).dropLast ++ [lastP (splitC c (s.data.toList.take k)) ++ [s[k]]] := by
  obtain ⟨x, t, e⟩ := splitC_ne c (s.data.toList.take k)
  rw [take_snoc s k h, splitC_snoc, if_neg hc, ontoLast_eq _ _ (by rw [e]; simp)]
  rw [e]
  unfold lastP
  rw [List.getLast!_eq_getLast?_getD]
  simp [List.getLast?_cons]
theorem split_same (c : UInt8) (s : ByteArray) (k : Nat) (h : k < s.size) (hc : s[k] = c) : splitC c (s.data.toList.take (k + 1)) = splitC c (s.data.toList.take k) ++ [[]] := by
  rw [take_snoc s k h, splitC_snoc, if_pos hc]
theorem svs_at_last (L : List (List UInt8)) (h : L ≠ []) : (svs L)[L.length - 1]? = some (sv (lastP L)) := by
  obtain ⟨M, x, rfl⟩ : ∃ M x, L = M ++ [x] := ⟨L.dropLast, L.getLast h, (List.dropLast_concat_getLast h).symm⟩
  simp [svs, lastP]
set_option maxHeartbeats 3200000 in
theorem refSplit_any (s : ByteArray) (c : UInt8) (hs : s.size ≤ 2000) (w : World) :
    Calls Tryd.prog 54 #[.string s, .int .u8 ((c.toNat : Nat) : Int)] w fun e w' =>
      ∃ v, e = .returned v ∧ w'.ownsRow w.heap.size 9 1 v (splitC c s.data.toList).length (svs (splitC c s.data.toList)) ∧ Below w.heap.size w w' := by
  obtain ⟨i0, hi0, hz0, hz1, hz2⟩ := info_parts string_info
  go_enter Tryd.func54, Tryd.ntmps54
  go_wp2
  go_loopw [5, 10] (fun v i wr => ∃ k : Nat, i = .int .i64 k ∧ k ≤ s.size ∧ Hid (wr.ownsRow w.heap.size 9 1 v (splitC c (s.data.toList.take k)).length (svs (splitC c (s.data.toList.take k)))) ∧ Below w.heap.size w wr) (fun _ i _ => s.size - (intOf i).toNat)
  case atStart =>
    refine ⟨0, rfl, by omega, ?_, (Below.refl _ _).alloc (Nat.le_refl _) _⟩
    exact World.ownsRow_lit w #[.string ByteArray.empty] 1 (Nat.le_refl _) (by simp only [maxLen]; omega) rfl
  case round =>
    obtain ⟨k, rfl, hk, hown, hb⟩ := hrel
    have hlen := splitC_length_le c (s.data.toList.take k)
    have hpos := splitC_length_pos c (s.data.toList.take k)
    rw [List.length_take] at hlen
    have hlen1 : (splitC c (s.data.toList.take k)).length ≤ 2001 := by omega
    clear hlen
    by_cases hlt : k < s.size
    · by_cases hc : s[k] = c
      · have hn := split_same c s k hlt hc
        have Hn := Lib.hid hn; clear hn
        have hcc : (((s[k].toNat : Nat) : Int) == ((c.toNat : Nat) : Int)) = true := by rw [hc]; simp
        generalize splitC c (s.data.toList.take k) = L at *
        go_wp2_with (first
          | (at_builtin
             refine wpList_append_own _ rfl (.tmp 18) (.tmp 19) _ rfl w.heap.size 9 i0 _ 1 16 Tryd.underlying52 hi0 hz0 hz1 hz2 rfl (by omega) _ _ _ rfl (hown.out.alloc _) ⟨wr.heap.size, 0, none⟩ 1 1 [.string ByteArray.empty] rfl rfl ?c1 ?c2 ?c3 ?c4 ?c5 ?_))
        case c1 =>
          intro j u hj
          match j, hj with
          | 0, hj => simp at hj; subst hj; simp [Addr.add]; rfl
        case c2 => intro u hu; simp at hu; subst hu; rfl
        case c3 => unfold maxLen; omega
        case c4 => omega
        case c5 => have := hb.size; simp; omega
        intro v' w1 hown' hgrow _
        have hb' : Below w.heap.size w w1 := (hb.alloc hb.size _).grown hgrow (by have := hb.size; simp; omega) (fun g hg => (hown.out.lt g hg).1)
        have Hown' := Lib.hid hown'
        clear hown' hown
        go_wp2
        go_roundw
        case rel =>
          refine ⟨k + 1, by go_num, by omega, ?_, hb'⟩
          rw [Hn.out]
          rw [show ((L ++ [[]] : List (List UInt8))).length = L.length + 1 from by simp, show svs (L ++ [[]]) = svs L ++ [Value.string ByteArray.empty] from by unfold svs; rw [List.map_append]; rfl]
          exact Hown'
        case measure => simp [intOf]; omega
      · have hn := split_next c s k hlt hc
        have Hn := Lib.hid hn; clear hn
        have hcc : (((s[k].toNat : Nat) : Int) == ((c.toNat : Nat) : Int)) = false := by
          rw [beq_eq_false_iff_ne]; intro e; exact hc (UInt8.toNat_inj.1 (by omega))
        have hne : splitC c (s.data.toList.take k) ≠ [] := by intro e; rw [e] at hpos; simp at hpos
        have hls : (⟨(lastP (splitC c (s.data.toList.take k))).toArray⟩ : ByteArray).size ≤ 2000 := by
          have hm : lastP (splitC c (s.data.toList.take k)) ∈ splitC c (s.data.toList.take k) := by
            obtain ⟨M, x, e⟩ : ∃ (M : List (List UInt8)) (x : List UInt8), splitC c (s.data.toList.take k) = M ++ [x] := ⟨_, (splitC c (s.data.toList.take k)).getLast hne, (List.dropLast_concat_getLast hne).symm⟩
            rw [e]; simp [lastP]
          have := splitC_mem_le _ _ _ hm
          rw [List.length_take] at this
          simp [ByteArray.size]
          omega
        have hxs : (s.extract k (k + 1)).size = 1 := by rw [ByteArray.size_extract]; omega
        generalize splitC c (s.data.toList.take k) = L at *
        obtain ⟨n, hn⟩ : ∃ n, L.length = n + 1 := ⟨L.length - 1, by omega⟩
        obtain ⟨g, cap, rfl, hg1, hg2⟩ := hown.out.form hpos
        rw [hn] at hown
        have hcell := hown.out.cellAt n (by omega)
        have hla := svs_at_last L hne
        rw [hn, Nat.add_sub_cancel] at hla
        rw [hla] at hcell
        have hfr := hown.out.frozenAt n
        obtain ⟨hst, hgr⟩ := hown.out.stored n (sv (lastP L ++ [s[k]]))
        have hb' := hb.grown hgr hb.size (fun g' hg' => by injection hg' with hg'; subst hg'; exact hg1)
        have hset : (svs L).set n (sv (lastP L ++ [s[k]])) = svs (L.dropLast ++ [lastP L ++ [s[k]]]) := by
          rcases svs_last L (lastP L ++ [s[k]]) with h | h
          · rw [hn, Nat.add_sub_cancel] at h; exact h
          · exact absurd h hne
        rw [hset] at hst
        have Hst := Lib.hid hst
        have Hb' := Lib.hid (below_drewN hb' 1)
        have hpush : ∀ (x : ByteArray), x = (⟨(lastP L).toArray⟩ : ByteArray) → x ++ s.extract k (k + 1) = ⟨(lastP L ++ [s[k]]).toArray⟩ := fun x hx => by rw [hx]; exact sv_push (lastP L) s k hlt
        have Hpush := Lib.hid (hpush _ rfl)
        clear hst hgr hown hset hla hb' hpush
        unfold sv at hcell
        generalize hS : (⟨(lastP L).toArray⟩ : ByteArray) = S at *
        clear hS
        have hn' : n ≤ 2000 := by omega
        rw [hn]
        go_wp2
        go_region
        all_goals (try go_wp2)
        go_roundw
        case rel =>
          refine ⟨k + 1, by go_num, by omega, ?_, by rw [Hpush.out]; exact Hb'.out⟩
          rw [Hn.out, Hpush.out]
          have e1 : (L.dropLast ++ [lastP L ++ [s[k]]]).length = n + 1 := by simp; omega
          rw [e1]
          exact Hst.out.drew
        case measure => simp [intOf]; omega
    · obtain rfl : k = s.size := by omega
      have e : s.data.toList.take s.size = s.data.toList := List.take_of_length_le (Nat.le_refl _)
      rw [e] at hown
      go_wp2
      go_ret
      exact ⟨_, rfl, hown.out, hb⟩
end Go.Proofs.YtfnckkmnncdelaaDoor
