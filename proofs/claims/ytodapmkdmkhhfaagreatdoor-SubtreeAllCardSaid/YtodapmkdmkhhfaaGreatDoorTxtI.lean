/- The functions of package text and its reference, ninth part: Unescape. -/
import Derived.Test.YtodapmkdmkhhfaaGreatDoorTxt2
namespace Go.Proofs.YtodapmkdmkhhfaaGreatDoor
open Go.RowKit


theorem idx_nib (c : UInt8) : Lib.indexByte digs c = nibI c := by
  have h : ∀ n : Fin 256, Lib.indexByte digs (UInt8.ofNat n.1) = nibI (UInt8.ofNat n.1) := by decide +kernel
  have := h ⟨c.toNat, c.toNat_lt⟩
  simpa using this
theorem idx_any (c : UInt8) (w : World) : Calls Tryz.prog 109 #[.string ⟨#[48, 49, 50, 51, 52, 53, 54, 55, 56, 57, 97, 98, 99, 100, 101, 102]⟩, .int .u8 (c.toNat : Int)] w fun e w' => e = .returned (.int .i64 (nibI c)) ∧ w = w' :=
  (Tryz.strings_IndexByte _ _ w).mono fun e w' ⟨he, hw⟩ => ⟨by rw [he, toUInt8_byte, ← idx_nib]; rfl, hw.symm⟩
theorem or_i64 (x y : Int) (h1 : 0 ≤ x) (h2 : x ≤ 15) (h3 : 0 ≤ y) (h4 : y ≤ 15) : bits .or .i64 (x * 16) y = x * 16 + y := by
  have h : ∀ a b : Fin 16, bits .or .i64 (((a.1 : Nat) : Int) * 16) ((b.1 : Nat) : Int) = ((a.1 : Nat) : Int) * 16 + ((b.1 : Nat) : Int) := by decide +kernel
  have := h ⟨x.toNat, by omega⟩ ⟨y.toNat, by omega⟩
  simpa [Int.toNat_of_nonneg h1, Int.toNat_of_nonneg h3] using this

/-- Unescape: its loop -/
def unescL : Nat → List UInt8 → Option (List UInt8)
  | 0, _ => none
  | _ + 1, [] => some []
  | n + 1, c :: r => if isPlain c then (unescL n r).map (c :: ·) else
      if c ≠ 92 ∨ r.length < 2 then none else
      if nibI (r.getD 0 0) < 0 ∨ nibI (r.getD 1 0) < 0 ∨ isPlain (UInt8.ofNat (nibI (r.getD 0 0) * 16 + nibI (r.getD 1 0)).toNat) then none else
      (unescL n (r.drop 2)).map (UInt8.ofNat (nibI (r.getD 0 0) * 16 + nibI (r.getD 1 0)).toNat :: ·)
def unesc (l : List UInt8) : Option (List UInt8) := unescL (l.length + 1) l

end Go.Proofs.YtodapmkdmkhhfaaGreatDoor
