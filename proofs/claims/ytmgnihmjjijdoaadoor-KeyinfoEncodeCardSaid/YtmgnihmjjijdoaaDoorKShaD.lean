/- Keys that the laws make. -/
import Derived.Test.YtmgnihmjjijdoaaDoorKShaC
import Derived.Test.YtmgnihmjjijdoaaDoorKKeyL
import Derived.Test.YtmgnihmjjijdoaaDoorKKeyH
import Derived.Test.YtmgnihmjjijdoaaDoorKGLibD
namespace Go.Proofs.YtmgnihmjjijdoaaDoor
open Go.RowKit
def b4L (n : Nat) : List UInt8 := [0, 0, 0, UInt8.ofNat n]
set_option maxHeartbeats 4000000 in
theorem B4_any (n : Nat) (hn : n ≤ 200) (y : ByteArray) (hy : y = ⟨(b4L n).toArray⟩) (w : World) :
  Calls Tryd.prog 32 #[.int .i64 (n : Int)] w fun e w' => e = .returned (.string y) ∧ Below w.heap.size w w' := by
 obtain ⟨d, hd⟩ : ∃ d, UInt8.ofNat n = d := ⟨_, rfl⟩
 have hdv : (n : Int) = (d.toNat : Int) := by rw [← hd, ← u8_of, IntKind.wrap_u8']; omega
 have hcv := conv_lit w #[.int .u8 0, .int .u8 0, .int .u8 0, .int .u8 (d.toNat : Int)] [0, 0, 0, d] rfl (by simp [maxLen]) y (by rw [hy, b4L, hd])
 rw [show ([0, 0, 0, d] : List UInt8).length = 4 from rfl, ← hdv] at hcv
 have h1 : (n : Int) / 16777216 = 0 := by omega
 have h2 : (n : Int) / 65536 = 0 := by omega
 have h3 : (n : Int) / 256 = 0 := by omega
 have hni : (n : Int) ≤ 200 := by omega
 clear hy hdv hd
 go_enter Tryd.func32, Tryd.ntmps32
 go_wp2_with fail
 go_ret
 exact ⟨rfl, (Below.refl _ _).alloc (Nat.le_refl _) _⟩
def seedT : List UInt8 := [115, 101, 101, 100]
def seedL (k : Nat) : List UInt8 := sum1 (seedT ++ b4L k)
theorem Seed_any (k : Nat) (hk : k ≤ 200) (w : World) :
  Calls Tryd.prog 15 #[.int .i64 (k : Int)] w fun e w' => e = .returned (.string ⟨(seedL k).toArray⟩) ∧ Below w.heap.size w w' := by
 obtain ⟨y, hy⟩ : ∃ y : ByteArray, y = ⟨(b4L k).toArray⟩ := ⟨_, rfl⟩
 have HY := hide hy
 clear hy
 go_enter Tryd.func15, Tryd.ntmps15
 go_wp2_with fail
 refine (B4_any k hk y HY.out _).mono ?_
 rintro e w1 ⟨rfl, hb1⟩
 have HB1 := hide hb1
 clear hb1
 have hsl := sl_pu (f := strC) (size := 1) (fun _ => rfl) w1 #[.string ⟨#[115, 101, 101, 100]⟩, .string y] 9 [seedT, b4L k] (by rw [HY.out]; rfl) (by simp [maxLen])
 have HSL := hide hsl
 clear hsl
 go_wp2_with fail
 refine (rSum_any [seedT, b4L k] _ 2 (by simp [seedT, b4L]) _ HSL.out).mono ?_
 rintro e w2 ⟨rfl, hb2⟩
 have HB2 := hide ((HB1.out.alloc HB1.out.size _).trans (hb2.mono (by have := HB1.out.size; simp; omega)))
 clear hb2
 go_wp2_with fail
 go_ret
 exact ⟨rfl, HB2.out⟩
end Go.Proofs.YtmgnihmjjijdoaaDoor
