/- Check of a key, both sides; its bytes. -/
import Derived.Test.YtmgnihmjjijdoaaDoorKKeyE
import Derived.Test.YtmgnihmjjijdoaaDoorKKeyB
namespace Go.Proofs.YtmgnihmjjijdoaaDoor
open Go.RowKit
set_option maxRecDepth 100000 in
set_option maxHeartbeats 2000000 in
theorem MCheck_any (h : Int) (i r : ByteArray) (w : World) :
  Calls Tryd.prog 16 #[.agg #[.int .i64 h, .string i, .string r]] w fun e w' => e = .returned (.int .i64 (chkK (h, i.data.toList, r.data.toList))) ∧ Below w.heap.size w w' := by
 obtain ⟨W0, hW0⟩ : ∃ W, W = w.alloc (.cells #[.int .i64 h, .string i, .string r] 23) := ⟨_, rfl⟩
 have n0 : W0.cell? ⟨w.heap.size, 0, none⟩ = some (.int .i64 h) := by rw [hW0, World.cell?_alloc_new]; rfl
 have n1 : W0.cell? ⟨w.heap.size, 1, none⟩ = some (.string i) := by rw [hW0, World.cell?_alloc_new]; rfl
 have n2 : W0.cell? ⟨w.heap.size, 2, none⟩ = some (.string r) := by rw [hW0, World.cell?_alloc_new]; rfl
 have HB0 := hide (show Below w.heap.size w W0 by rw [hW0]; exact (Below.refl _ _).alloc (Nat.le_refl _) _)
 obtain ⟨o, ho⟩ : ∃ o, chkK (h, i.data.toList, r.data.toList) = o := ⟨_, rfl⟩
 rw [ho]
 have HO := hide (show o = if h < 0 ∨ 8 < h ∨ i.size ≠ 16 ∨ r.size ≠ 16 then 18 else 0 by rw [← ho, chkK]; simp only [size_string])
 clear ho
 go_enter Tryd.func16, Tryd.ntmps16
 go_upto_region 1 with fail
 rw [← hW0]
 clear hW0
 by_cases h1 : h < 0
 ·have HN := hide (show o = 18 by rw [HO.out, if_pos (.inl h1)])
  go_wp2_with fail
  go_ret
  exact ⟨by rw [HN.out]; rfl, HB0.out⟩
 ·by_cases h2 : 8 < h
  ·have HN := hide (show o = 18 by rw [HO.out, if_pos (.inr (.inl h2))])
   go_wp2_with fail
   go_ret
   exact ⟨by rw [HN.out]; rfl, HB0.out⟩
  ·by_cases h3 : i.size = 16
   ·have t3 : ((i.size : Int) != 16) = false := by rw [h3]; rfl
    by_cases h4 : r.size = 16
    ·have t4 : ((r.size : Int) != 16) = false := by rw [h4]; rfl
     have HN := hide (show o = 0 by rw [HO.out, if_neg (by omega)])
     clear h3 h4
     go_wp2_with fail
     go_ret
     exact ⟨by rw [HN.out]; rfl, HB0.out⟩
    ·have t4 : ((r.size : Int) != 16) = true := bne_iff_ne.2 (by omega)
     have HN := hide (show o = 18 by rw [HO.out, if_pos (by omega)])
     clear h3 h4
     go_wp2_with fail
     go_ret
     exact ⟨by rw [HN.out]; rfl, HB0.out⟩
   ·have t3 : ((i.size : Int) != 16) = true := bne_iff_ne.2 (by omega)
    have HN := hide (show o = 18 by rw [HO.out, if_pos (by omega)])
    clear h3
    go_wp2_with fail
    go_ret
    exact ⟨by rw [HN.out]; rfl, HB0.out⟩
set_option maxRecDepth 100000 in
set_option maxHeartbeats 2000000 in
theorem rCheckKey_any (h : Int) (i r : ByteArray) (w : World) :
  Calls Tryd.prog 20 #[.agg #[.int .i64 h, .string i, .string r]] w fun e w' => e = .returned (.int .i64 (chkK (h, i.data.toList, r.data.toList))) ∧ Below w.heap.size w w' := by
 obtain ⟨W0, hW0⟩ : ∃ W, W = w.alloc (.cells #[.int .i64 h, .string i, .string r] 23) := ⟨_, rfl⟩
 have n0 : W0.cell? ⟨w.heap.size, 0, none⟩ = some (.int .i64 h) := by rw [hW0, World.cell?_alloc_new]; rfl
 have n1 : W0.cell? ⟨w.heap.size, 1, none⟩ = some (.string i) := by rw [hW0, World.cell?_alloc_new]; rfl
 have n2 : W0.cell? ⟨w.heap.size, 2, none⟩ = some (.string r) := by rw [hW0, World.cell?_alloc_new]; rfl
 have HB0 := hide (show Below w.heap.size w W0 by rw [hW0]; exact (Below.refl _ _).alloc (Nat.le_refl _) _)
 obtain ⟨o, ho⟩ : ∃ o, chkK (h, i.data.toList, r.data.toList) = o := ⟨_, rfl⟩
 rw [ho]
 have HO := hide (show o = if h < 0 ∨ 8 < h ∨ i.size ≠ 16 ∨ r.size ≠ 16 then 18 else 0 by rw [← ho, chkK]; simp only [size_string])
 clear ho
 go_enter Tryd.func20, Tryd.ntmps20
 go_upto_region 1 with fail
 rw [← hW0]
 clear hW0
 by_cases h1 : h < 0
 ·have HN := hide (show o = 18 by rw [HO.out, if_pos (.inl h1)])
  go_wp2_with fail
  go_ret
  exact ⟨by rw [HN.out]; rfl, HB0.out⟩
 ·by_cases h2 : 8 < h
  ·have HN := hide (show o = 18 by rw [HO.out, if_pos (.inr (.inl h2))])
   go_wp2_with fail
   go_ret
   exact ⟨by rw [HN.out]; rfl, HB0.out⟩
  ·by_cases h3 : i.size = 16
   ·have t3 : ((i.size : Int) != 16) = false := by rw [h3]; rfl
    by_cases h4 : r.size = 16
    ·have t4 : ((r.size : Int) != 16) = false := by rw [h4]; rfl
     have HN := hide (show o = 0 by rw [HO.out, if_neg (by omega)])
     clear h3 h4
     go_wp2_with fail
     go_ret
     exact ⟨by rw [HN.out]; rfl, HB0.out⟩
    ·have t4 : ((r.size : Int) != 16) = true := bne_iff_ne.2 (by omega)
     have HN := hide (show o = 18 by rw [HO.out, if_pos (by omega)])
     clear h3 h4
     go_wp2_with fail
     go_ret
     exact ⟨by rw [HN.out]; rfl, HB0.out⟩
   ·have t3 : ((i.size : Int) != 16) = true := bne_iff_ne.2 (by omega)
    have HN := hide (show o = 18 by rw [HO.out, if_pos (by omega)])
    clear h3
    go_wp2_with fail
    go_ret
    exact ⟨by rw [HN.out]; rfl, HB0.out⟩
set_option maxRecDepth 100000 in
set_option maxHeartbeats 2000000 in
theorem ralg_any (g : Addr) (t : Int) (c raw : ByteArray) (hc : c.size ≤ 131072) (w : World) (htb : Tb w) :
  Calls Tryd.prog 28 #[.pointer (some g), .agg #[.int .i64 t, .string c, .string raw]] w fun e w' => e = .returned (.int .i64 (chkAlg t c.data.toList)) ∧ Below w.heap.size w w' := by
 obtain ⟨W0, hW0⟩ : ∃ W, W = w.alloc (.cells #[.int .i64 t, .string c, .string raw] 50) := ⟨_, rfl⟩
 have n0 : W0.cell? ⟨w.heap.size, 0, none⟩ = some (.int .i64 t) := by rw [hW0, World.cell?_alloc_new]; rfl
 have n1 : W0.cell? ⟨w.heap.size, 1, none⟩ = some (.string c) := by rw [hW0, World.cell?_alloc_new]; rfl
 have n2 : W0.cell? ⟨w.heap.size, 2, none⟩ = some (.string raw) := by rw [hW0, World.cell?_alloc_new]; rfl
 have HB0 := hide (show Below w.heap.size w W0 by rw [hW0]; exact (Below.refl _ _).alloc (Nat.le_refl _) _)
 have HTB := hide htb
 clear htb
 go_enter Tryd.func28, Tryd.ntmps28
 go_upto_region 1 with fail
 rw [← hW0]
 clear hW0
 go_wp2_with fail
 refine (CheckAlgorithm_any t c raw hc _ (HTB.out.below HB0.out)).mono ?_
 rintro e w1 ⟨rfl, hb1⟩
 have HB1 := hide (HB0.out.trans (hb1.mono HB0.out.size))
 clear hb1 n0 n1 n2
 go_wp2_with fail
 go_ret
 exact ⟨rfl, HB1.out⟩
end Go.Proofs.YtmgnihmjjijdoaaDoor
