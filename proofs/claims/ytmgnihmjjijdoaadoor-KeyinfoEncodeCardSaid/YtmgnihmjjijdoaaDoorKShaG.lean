/- The program's hash: its first state, its constants. -/
import Derived.Test.YtmgnihmjjijdoaaDoorKShaF
namespace Go.Proofs.YtmgnihmjjijdoaaDoor
open Go.RowKit
def S8.val (s : S8) : Value := .agg #[.int .u32 (W32 s.a), .int .u32 (W32 s.b), .int .u32 (W32 s.c), .int .u32 (W32 s.d), .int .u32 (W32 s.e), .int .u32 (W32 s.f), .int .u32 (W32 s.g), .int .u32 (W32 s.h)]
set_option maxHeartbeats 2000000 in
theorem initial_any (w : World) : Calls Tryd.prog 60 #[] w fun e w' => e = .returned initS.val ∧ Below w.heap.size w w' := by
 go_enter Tryd.func60, Tryd.ntmps60
 go_wp2_with fail
 obtain ⟨W1, hW1⟩ : ∃ W, W = w.alloc (.cells #[.int .u32 1779033703, .int .u32 3144134277, .int .u32 1013904242, .int .u32 2773480762, .int .u32 1359893119, .int .u32 2600822924, .int .u32 528734635, .int .u32 1541459225] 96) := ⟨_, rfl⟩
 have c0 : W1.cell? ⟨w.heap.size, 0, none⟩ = some (.int .u32 (W32 initS.a)) := by rw [hW1, World.cell?_alloc_new]; rfl
 have c1 : W1.cell? ⟨w.heap.size, 1, none⟩ = some (.int .u32 (W32 initS.b)) := by rw [hW1, World.cell?_alloc_new]; rfl
 have c2 : W1.cell? ⟨w.heap.size, 2, none⟩ = some (.int .u32 (W32 initS.c)) := by rw [hW1, World.cell?_alloc_new]; rfl
 have c3 : W1.cell? ⟨w.heap.size, 3, none⟩ = some (.int .u32 (W32 initS.d)) := by rw [hW1, World.cell?_alloc_new]; rfl
 have c4 : W1.cell? ⟨w.heap.size, 4, none⟩ = some (.int .u32 (W32 initS.e)) := by rw [hW1, World.cell?_alloc_new]; rfl
 have c5 : W1.cell? ⟨w.heap.size, 5, none⟩ = some (.int .u32 (W32 initS.f)) := by rw [hW1, World.cell?_alloc_new]; rfl
 have c6 : W1.cell? ⟨w.heap.size, 6, none⟩ = some (.int .u32 (W32 initS.g)) := by rw [hW1, World.cell?_alloc_new]; rfl
 have c7 : W1.cell? ⟨w.heap.size, 7, none⟩ = some (.int .u32 (W32 initS.h)) := by rw [hW1, World.cell?_alloc_new]; rfl
 have hb : Below w.heap.size w W1 := by rw [hW1]; exact (Below.refl _ _).alloc (Nat.le_refl _) _
 rw [← hW1]
 exact bodyPost_ret (v := initS.val) (by simp [results, Tryd.results60, go_sem, c0, c1, c2, c3, c4, c5, c6, c7, S8.val]) rfl ⟨rfl, hb⟩
end Go.Proofs.YtmgnihmjjijdoaaDoor
