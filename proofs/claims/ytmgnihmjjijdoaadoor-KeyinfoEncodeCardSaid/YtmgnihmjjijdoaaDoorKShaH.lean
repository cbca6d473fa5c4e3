/- The program's hash: its constants. -/
import Derived.Test.YtmgnihmjjijdoaaDoorKShaG
import Derived.Laws.Rows
import Derived.Laws.Tables
namespace Go.Proofs.YtmgnihmjjijdoaaDoor
open Go.RowKit
theorem below_setRow {B : Nat} {w0 w : World} (hb : Below B w0 w) {g : Nat} (hg : B ≤ g) (cs : Array Value) : Below B w0 (w.setRow g cs) :=
 ⟨hb.os, hb.tape, hb.output, by have := hb.size; simpa [World.setRow] using this, fun k hk => (setRow_other w g k cs (by omega)).trans (hb.block k hk)⟩
def kA : Array Value := (kL.map fun x => Value.int .u32 (W32 x)).toArray
set_option maxRecDepth 100000 in
set_option maxHeartbeats 2000000 in
theorem rounds_any (w : World) : Calls Tryd.prog 68 #[] w fun e w' => e = .returned (.agg kA) ∧ Below w.heap.size w w' := by
 have hg0 : ∀ C, (w.alloc (.cells C 91)).heap[w.heap.size]? = some (.cells C 91 (0, 0)) := fun C => heap_alloc_new w _
 have hb0 : ∀ C, Below w.heap.size w (w.alloc (.cells C 91)) := fun C => (Below.refl _ _).alloc (Nat.le_refl _) _
 go_enter Tryd.func68, Tryd.ntmps68
 go_upto_region 1 with fail
 apply wp_region_lit
 refine wpList_build rfl _ _ rfl (by kernel_rfl) ?_
 generalize hx : Option.getD _ _ = x
 have hxk : x = kA := by rw [← hx]; kernel_rfl
 clear hx
 subst hxk
 refine wpList_store_row rfl _ _ _ rfl w.heap.size kA rfl rfl _ _ (hg0 _) (by kernel_rfl) (by kernel_rfl) (by kernel_rfl) ?_
 apply wpList_nil
 change Exit.then _ _ Exit.normal { tmps := #[.pointer (some ⟨w.heap.size, 0, none⟩), .agg kA], defers := [] } _
 have hg2 := fun C => setRow_heap _ w.heap.size _ kA _ _ (hg0 C)
 have hb2 := fun C => below_setRow (hb0 C) (Nat.le_refl _) kA
 go_wp2_with fail
 exact bodyPost_ret (v := .agg kA) (results_cell_row (P := Tryd.prog) rfl _ _ w.heap.size _ kA _ _ rfl (hg2 _) Tryd.underlying91 rfl (by kernel_rfl)) rfl ⟨rfl, hb2 _⟩
end Go.Proofs.YtmgnihmjjijdoaaDoor
