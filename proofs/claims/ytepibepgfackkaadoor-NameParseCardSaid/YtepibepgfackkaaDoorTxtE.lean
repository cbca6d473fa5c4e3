/- The functions of package text and its reference, fifth part: Escape, hexadecimal digits, Unescape. -/
import Derived.Test.YtepibepgfackkaaDoorTxtD
import Derived.Deep.RegionHeld3
namespace Go.Proofs.YtepibepgfackkaaDoor
open Go.RowKit

def digs : List UInt8 := [48, 49, 50, 51, 52, 53, 54, 55, 56, 57, 97, 98, 99, 100, 101, 102]
def hexd (n : Nat) : UInt8 := digs.getD n 0
def escB (c : UInt8) : List UInt8 := if isPlain c then [c] else [92, hexd (c.toNat / 16), hexd (c.toNat % 16)]



theorem hexd_at (n : Nat) (h : n < 16) : ((⟨#[48, 49, 50, 51, 52, 53, 54, 55, 56, 57, 97, 98, 99, 100, 101, 102]⟩ : ByteArray)[n]'h) = hexd n := by
  have : ∀ n : Fin 16, ((⟨#[48, 49, 50, 51, 52, 53, 54, 55, 56, 57, 97, 98, 99, 100, 101, 102]⟩ : ByteArray)[n.1]'n.2) = hexd n.1 := by decide
  exact this ⟨n, h⟩
theorem nibbles (b : UInt8) : ∃ x y : Nat, (x : Int) < 16 ∧ (y : Int) < 16 ∧ (0 : Int) ≤ (x : Int) ∧ (0 : Int) ≤ (y : Int) ∧ (b.toNat : Int) / 16 = (x : Int) ∧ bits .and .u8 (b.toNat : Int) 15 = (y : Int) ∧
    (∀ h : x < 16, ((⟨#[48, 49, 50, 51, 52, 53, 54, 55, 56, 57, 97, 98, 99, 100, 101, 102]⟩ : ByteArray)[x]'h) = hexd x) ∧ (∀ h : y < 16, ((⟨#[48, 49, 50, 51, 52, 53, 54, 55, 56, 57, 97, 98, 99, 100, 101, 102]⟩ : ByteArray)[y]'h) = hexd y) ∧
    Hid (b.toNat / 16 = x ∧ b.toNat % 16 = y) := by
  have hb := b.toNat_lt
  refine ⟨b.toNat / 16, b.toNat % 16, by omega, by omega, by omega, by omega, by omega, ?_, hexd_at _, hexd_at _, ⟨rfl, rfl⟩⟩
  have h := u8_and15 (x := (b.toNat : Int)) (by omega) (by omega)
  exact h.trans (by omega)

end Go.Proofs.YtepibepgfackkaaDoor
