/- The examples of the chapter of package oid: awake; the law OidValid, its walk. -/
import Derived.Test.YtiikpdjjhnhiiaaDoorOidK
import Derived.Test.YtiikpdjjhnhiiaaDoorOidL
import Derived.Test.YtiikpdjjhnhiiaaDoorOidM
namespace Go.Proofs.YtiikpdjjhnhiiaaDoor
open Go.RowKit

theorem putL_small {n : Nat} (h : n < 128) : putL n = [UInt8.ofNat n] := by
  rw [putL, show n / 128 = 0 by omega, hiL_zero, show n % 128 = n by omega]; rfl
theorem awake_enc : encP [50, 46, 53, 46, 50, 57, 46, 49, 57] = some [85, 29, 19] := by
  have h : arcsP [50, 46, 53, 46, 50, 57, 46, 49, 57] = some [2, 5, 29, 19] := by decide
  rw [encP, h, Option.map_some, encL]
  simp only [List.getD_cons_zero, List.getD_cons_succ, List.drop_succ_cons, List.drop_zero, List.flatMap_cons, List.flatMap_nil]
  rw [putL_small (by omega), putL_small (by omega), putL_small (by omega)]
  rfl
theorem awake_no : validB [49, 46, 52, 48] = false := by decide
theorem awake_yes : validB [50, 46, 52, 48] = true := by decide
theorem encR_shape (o : Option (List UInt8)) : ∃ (B : ByteArray) (n : Int), encR o = .tuple #[.string B, .int .i64 n] := ⟨_, _, rfl⟩

end Go.Proofs.YtiikpdjjhnhiiaaDoor
