/- The program's hash: a stream to which one string of 33 bytes is written. -/
import Derived.Test.YtmgnihmjjijdoaaDoorKShaK
import Derived.Test.YtmgnihmjjijdoaaDoorKShaC
import Derived.Test.YtmgnihmjjijdoaaDoorKGSplit
import Derived.Lib.AppendStr
namespace Go.Proofs.YtmgnihmjjijdoaaDoor
open Go.RowKit
def StB (g : Nat) (s : S8) (v : Value) (n : Int) (W : World) : Prop := W.heap[g]? = some (.cells #[.int .u32 (W32 s.a), .int .u32 (W32 s.b), .int .u32 (W32 s.c), .int .u32 (W32 s.d), .int .u32 (W32 s.e), .int .u32 (W32 s.f), .int .u32 (W32 s.g), .int .u32 (W32 s.h), v, .int .i64 n] 98 (0, 0))
section
variable {g : Nat} {s : S8} {v : Value} {n : Int} {W W' : World}
theorem StB.lt (h : StB g s v n W) : g < W.heap.size := (Array.getElem?_eq_some_iff.1 h).1
theorem StB.below (h : StB g s v n W) (hb : Below W.heap.size W W') : StB g s v n W' := (hb.block g h.lt).trans h
theorem StB.at_ (h : StB g s v n W) (hb : W'.heap[g]? = W.heap[g]?) : StB g s v n W' := hb.trans h
theorem StB.frozen (h : StB g s v n W) (i : Nat) : W.frozen? ⟨g, i, none⟩ = false := by
 unfold StB at h
 simp [World.frozen?, h]
theorem StB.words (h : StB g s v n W) : W.cell? ⟨g, 0, none⟩ = some (.int .u32 (W32 s.a)) ∧ W.cell? ⟨g, 1, none⟩ = some (.int .u32 (W32 s.b)) ∧ W.cell? ⟨g, 2, none⟩ = some (.int .u32 (W32 s.c)) ∧ W.cell? ⟨g, 3, none⟩ = some (.int .u32 (W32 s.d)) ∧
  W.cell? ⟨g, 4, none⟩ = some (.int .u32 (W32 s.e)) ∧ W.cell? ⟨g, 5, none⟩ = some (.int .u32 (W32 s.f)) ∧ W.cell? ⟨g, 6, none⟩ = some (.int .u32 (W32 s.g)) ∧ W.cell? ⟨g, 7, none⟩ = some (.int .u32 (W32 s.h)) := by
 unfold StB at h
 simp [World.cell?, h]
theorem StB.rest (h : StB g s v n W) : W.cell? ⟨g, 8, none⟩ = some v ∧ W.cell? ⟨g, 9, none⟩ = some (.int .i64 n) := by
 unfold StB at h
 simp [World.cell?, h]
theorem StB.set8 (t : S8) (h : StB g s v n W) : StB g t v n (set8 W g t) := by
 unfold StB Go.Proofs.YtmgnihmjjijdoaaDoor.set8 at *
 simp [World.setCell, Array.getElem?_modify, h]
theorem StB.set9 (m : Int) (h : StB g s v n W) : StB g s v m (W.setCell ⟨g, 9, none⟩ (.int .i64 m)) := by
 unfold StB at *
 simp [World.setCell, Array.getElem?_modify, h]
theorem StB.setv (u : Value) (h : StB g s v n W) : StB g s u n (W.setCell ⟨g, 8, none⟩ u) := by
 unfold StB at *
 simp [World.setCell, Array.getElem?_modify, h]
end
theorem Ex.set8 {g : Nat} {w W : World} (h : Ex g w W) (t : S8) : Ex g w (set8 W g t) := by
 unfold Go.Proofs.YtmgnihmjjijdoaaDoor.set8
 exact (((((((h.trans (Ex.set g 0 _ _)).trans (Ex.set g 1 _ _)).trans (Ex.set g 2 _ _)).trans (Ex.set g 3 _ _)).trans (Ex.set g 4 _ _)).trans (Ex.set g 5 _ _)).trans (Ex.set g 6 _ _)).trans (Ex.set g 7 _ _)
theorem Own.ofStr {e : TypeId} {w : World} {base : Nat} {S : Nat → Prop} {v : Value} {y : ByteArray} (h : w.ownsRow base e 1 v y.size (Go.Lib.strCells y)) (hS : ∀ g, v.ownBlock = some g → ¬ S g) : Own RByte 1 e w base S v y.data.toList := by
  refine ⟨Go.Lib.strCells y, ?_, hS, fun i x hx => ⟨byteC x, rfl, fun j u hu => ?_⟩⟩
  · rw [size_string]; exact h
  · match j, hu with
    | 0, hu =>
      simp [byteC] at hu; subst hu
      rw [Nat.mul_one, Nat.add_zero]
      simp [Go.Lib.strCells, hx]
set_option maxHeartbeats 2000000 in
theorem Start_any (w : World) : Calls Tryd.prog 49 #[] w fun e w' => e = .returned (.pointer (some ⟨w.heap.size, 0, none⟩)) ∧ StB w.heap.size zeroS (.slice none 0 0) 0 w' ∧ Below w.heap.size w w' := by
 obtain ⟨W1, hW1⟩ : ∃ W, W = w.alloc (.cells #[.int .u32 0, .int .u32 0, .int .u32 0, .int .u32 0, .int .u32 0, .int .u32 0, .int .u32 0, .int .u32 0, .slice none 0 0, .int .i64 0] 98) := ⟨_, rfl⟩
 have h1 : StB w.heap.size zeroS (.slice none 0 0) 0 W1 := by rw [hW1]; exact heap_alloc_new w _
 have hb : Below w.heap.size w W1 := by rw [hW1]; exact (Below.refl _ _).alloc (Nat.le_refl _) _
 have H1 := hide h1
 have HB := hide hb
 have HW := hide hW1
 clear h1 hb hW1
 go_enter Tryd.func49, Tryd.ntmps49
 go_wp2_with fail
 rw [← HW.out]
 go_ret
 exact ⟨rfl, H1.out, HB.out⟩
set_option maxRecDepth 100000 in
set_option maxHeartbeats 8000000 in
theorem Write_any (y : ByteArray) (hy : y.size = 33) (g : Nat) (w : World) (h : StB g zeroS (.slice none 0 0) 0 w) :
  Calls Tryd.prog 50 #[.pointer (some ⟨g, 0, none⟩), .string y] w fun e w' => e = .returned (.tuple #[]) ∧ ∃ v, StB g initS v 33 w' ∧ Sl RByte 1 w' (Btw w.heap.size w'.heap.size) y.data.toList [v] ∧ Ex g w w' := by
 have hgw := h.lt
 have H := hide h
 have hyn : y.data.toList ≠ [] := fun e => by have := size_string y; rw [e] at this; simp at this; omega
 have t1 : ¬ y.toList = [] := by rw [ByteArray.toList_eq]; exact hyn
 have t2 : (y.toList == []) = false := by simpa using t1
 have t3 : y.toList.isEmpty = false := by simpa using t1
 have hyi : (y.size : Int) = 33 := by omega
 obtain ⟨c8, c9⟩ := h.rest
 clear h hyn
 go_enter Tryd.func50, Tryd.ntmps50
 go_wp2_with fail
 clear t1 t2 t3
 refine (initial_any _).mono ?_
 rintro e w1 ⟨rfl, hb1⟩
 have H1 := hide (H.out.below hb1)
 have HX1 := hide (Ex.of_below (d := g) hb1)
 obtain ⟨W2, hW2⟩ : ∃ W, W = set8 w1 g initS := ⟨_, rfl⟩
 have H2 := hide (show StB g initS (.slice none 0 0) 0 W2 by rw [hW2]; exact H1.out.set8 initS)
 have HX2 := hide (show Ex g w W2 by rw [hW2]; exact HX1.out.set8 initS)
 have f0 := H1.out.frozen 0
 have f1 := H1.out.frozen 1
 have f2 := H1.out.frozen 2
 have f3 := H1.out.frozen 3
 have f4 := H1.out.frozen 4
 have f5 := H1.out.frozen 5
 have f6 := H1.out.frozen 6
 have f7 := H1.out.frozen 7
 obtain ⟨x0, x1, x2, x3, x4, x5, x6, x7⟩ := H1.out.words
 clear hb1 c8 c9
 unfold set8 at hW2
 rw [show initS.val = .agg #[.int .u32 (W32 initS.a), .int .u32 (W32 initS.b), .int .u32 (W32 initS.c), .int .u32 (W32 initS.d), .int .u32 (W32 initS.e), .int .u32 (W32 initS.f), .int .u32 (W32 initS.g), .int .u32 (W32 initS.h)] from rfl]
 go_upto_region 3 with fail
 rw [← hW2]
 clear hW2 f0 f1 f2 f3 f4 f5 f6 f7 x0 x1 x2 x3 x4 x5 x6 x7
 obtain ⟨c8, c9⟩ := H2.out.rest
 have f9 := H2.out.frozen 9
 obtain ⟨W3, hW3⟩ : ∃ W, W = W2.setCell ⟨g, 9, none⟩ (.int .i64 33) := ⟨_, rfl⟩
 have H3 := hide (show StB g initS (.slice none 0 0) 33 W3 by rw [hW3]; exact H2.out.set9 33)
 have HX3 := hide (show Ex g w W3 by rw [hW3]; exact HX2.out.trans (Ex.set g 9 _ _))
 go_upto_region 4 with fail
 try rw [hyi]
 rw [← hW3]
 clear hW3 c8 c9 f9
 obtain ⟨c8, c9⟩ := H3.out.rest
 obtain ⟨i0, hi0, hz0, hz1, hz2⟩ := info_parts info_u8o
 obtain ⟨base, hbase⟩ : ∃ b, b = W3.heap.size := ⟨_, rfl⟩
 have hwb : w.heap.size ≤ base := by have := HX3.out.size; omega
 have hgb : g < base := by omega
 have hbs : base ≤ W3.heap.size := by omega
 have HBASE := hide hbase
 clear hbase
 go_upto_region 5 with (first
  | (at_builtin; refine wpList_apps RByte.ok _ rfl (.const (.slice none 0 0)) (.tmp 32) 43 rfl base 5 (.int .u8 0) 1 Tryd.underlying43 info_u8o rfl (by decide) No _ ([] : List UInt8) rfl (Own.nil _ _ _ _ _ _) (.slice none 0 0) ([] : List UInt8) rfl (.inl ⟨rfl, rfl⟩) (no_lt _) (by simp) (by simp [maxLen]) (by omega) ?_; intro v4 w4 hown4 hg4 hb4 hat4; obtain ⟨xs4, h41, -, -⟩ := hown4; have hxs4 : xs4 = [] := List.eq_nil_of_length_eq_zero (by have := h41.1; simpa using this); subst hxs4; have hw4 := hb4.size)
  | (at_builtin; refine Go.Lib.wpList_append_own_string _ rfl (.tmp 33) (.tmp 34) 43 9 rfl base 5 i0 Tryd.underlying43 Tryd.underlying9 hi0 hz0 hz1 hz2 v4 0 [] rfl h41 y rfl (by unfold maxLen; omega) (by omega) (by omega) ?_; intro v5 w5 hown5 hg5 hn5)
  | fail)
 have hb45 : Below base w4 w5 := (Below.refl _ _).grown hg5 (by omega) (fun k hk => by
  rcases h41.2 with ⟨rfl, -⟩ | ⟨g', cap, cur, rfl, hbg, -⟩
  ·cases hk
  ·simp [Value.ownBlock] at hk; omega)
 rw [Nat.zero_add, List.nil_append] at hown5
 have hownY : Own RByte 1 5 w5 base No v5 y.data.toList := Own.ofStr hown5 (fun _ _ h => h)
 obtain ⟨L, hL⟩ : ∃ L, y.data.toList = L := ⟨_, rfl⟩
 have hLl : L.length = 33 := by rw [← hL, size_string]; exact hy
 have HLE := hide hL
 rw [hL] at hownY
 obtain ⟨A5, c5, hv5⟩ := (hownY.sl RByte.ok).shape
 subst hv5
 have HOWN := hide hownY
 have HB5 := hide (hb4.trans (hb45.mono (Nat.le_refl _)))
 have hw5 := HB5.out.size
 have H5 := hide (H3.out.at_ (HB5.out.block g hgb))
 have hlt : ¬ (64 : Int) ≤ (L.length : Int) := by omega
 have HLL := hide hLl
 clear hown5 hg5 hn5 hb45 h41 hg4 hb4 hat4 hownY c8 c9 hL hLl hi0 hz0 hz1 hz2
 go_loopw [4] (fun v wr => v = .slice A5 L.length c5 ∧ wr = w5) (fun _ _ => 0)
 case atStart => exact ⟨rfl, rfl⟩
 case round =>
  obtain ⟨rfl, rfl⟩ := hrel
  obtain ⟨c8, -⟩ := H5.out.rest
  have f8 := H5.out.frozen 8
  go_wp2_with (first
   | (at_builtin; refine wpList_copy RByte.ok _ rfl (.const (.slice none 0 0)) (.tmp 52) 43 rfl base 5 (.int .u8 0) 1 Tryd.underlying43 info_u8o rfl (by decide) (fun k => No k ∨ base ≤ k ∧ k < wr.heap.size) No (fun _ _ h => h) rfl A5 c5 L rfl (HOWN.out.sl RByte.ok) (no_lt _) (by have := HLL.out; omega) (by omega) ?_; intro v6 w6 hown6 hb6 hat6; obtain ⟨A6, c6, hv6⟩ := (hown6.sl RByte.ok).shape; subst hv6; have c8 := cell_grows hb6 _ _ c8; have f8 := (H5.out.below hb6).frozen 8; have H6 := hide (H5.out.below hb6))
   | fail)
  have hsl6 := hown6.sl RByte.ok
  have hw6 := hb6.size
  refine bodyPost_end (v := .tuple #[]) (by simp [results, Tryd.results50, go_sem]) rfl ?_
  rw [HLE.out]
  refine ⟨rfl, _, H6.out.setv _, (Sl.ok RByte.ok).mono hsl6 (fun j hj => Below.heap_setCell _ ⟨g, 8, none⟩ _ j (by rcases hj with hj | hj; exact hj.elim; show j ≠ g; omega)) (fun j hj => by
   rcases hj with hj | hj
   ·exact hj.elim
   ·exact ⟨by omega, by have := hj.2; simpa using this⟩), ?_⟩
  have hx : Ex g W3 w6 := Ex.of_below ((HBASE.out ▸ HB5.out : Below W3.heap.size W3 _).trans (hb6.mono (by omega)))
  exact (HX3.out.trans hx).trans (Ex.set g 8 _ _)
end Go.Proofs.YtmgnihmjjijdoaaDoor
