/-
  More plain words on memory: bytes turned into strings.
-/
import Derived.Test.YtmjikfeaopmejaaDoorBase
import Derived.Deep.Cut
import Derived.Lib.QuietBelow
import Derived.Laws.BytesString
namespace Go.Proofs.YtmjikfeaopmejaaDoor
open Go.RowKit
theorem push_all : ∀ (bs : List UInt8) (acc : ByteArray), (bs.map fun b => ((b.toNat : Nat) : Int)).foldl (fun r n => r.push (UInt8.ofNat n.toNat)) acc = ⟨acc.data ++ bs.toArray⟩
  | [], acc => by simp
  | b :: bs, acc => by
    rw [List.map_cons, List.foldl_cons, push_all bs]
    simp [ByteArray.push]
/-- string(b), b a slice whose cells are known -/
theorem run_string_bytes {P : Program} (w : World) (src dst e : TypeId) (a : Addr) (bs : List UInt8) (cap : Nat)
    (hs : P.underlying src = some (.slice e)) (he : P.underlying e = some (.int .u8)) (hd : P.underlying dst = some .string)
    (hc : ∀ j b, bs[j]? = some b → w.cell? (a.add j) = some (.int .u8 ((b.toNat : Nat) : Int))) :
    (convert src dst (.slice (some a) bs.length cap)).run P w = .ok (.string ⟨bs.toArray⟩) w := by
  rw [run_convert_bytes_string w src dst e (some a) bs.length cap hs he hd]
  have hl := run_loadCells_list (P := P) w a (bs.map fun b => Value.int .u8 ((b.toNat : Nat) : Int)) (fun j v hv => by
    rw [List.getElem?_map] at hv
    cases hb : bs[j]? with
    | none => rw [hb] at hv; cases hv
    | some b => rw [hb] at hv; simp at hv; subst hv; exact hc j b hb)
  rw [List.length_map] at hl
  have := run_bytesToString (P := P) w a bs.length cap (bs.map fun b => ((b.toNat : Nat) : Int)) (by rw [List.map_map]; exact hl)
  rw [this, push_all]
  rw [show (⟨ByteArray.empty.data ++ bs.toArray⟩ : ByteArray) = ⟨bs.toArray⟩ from by congr 1; show #[] ++ bs.toArray = _; simp]
theorem u8_nat (n : Nat) (h : n < 256) : (UInt8.ofNat n).toNat = n := by simp; omega
end Go.Proofs.YtmjikfeaopmejaaDoor
