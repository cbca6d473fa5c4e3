/- sort.Slice at the items of dname.Format. -/
import Derived.Test.YtmgnihmjjijdoaaGreatDoorSrtL
import Derived.Test.YtmgnihmjjijdoaaGreatDoorLib
import Derived.Shelf.GgSortFunc.Tiny
namespace Go.Proofs.YtmgnihmjjijdoaaGreatDoor
open Go.RowKit Go.Shelf Go.Lib
open Go.Sort (HoldsK putRowK flatK SWO PermIn SortedIn)
abbrev Item := List UInt8 × List UInt8
def itemC (x : Item) : List Value := [.string ⟨x.1.toArray⟩, .string ⟨x.2.toArray⟩]
abbrev RItem : Rep Item := Pu itemC
theorem RItem.ok : RepOk RItem 2 := Pu.ok (fun _ => rfl) (fun x u hu => by
 simp only [itemC, List.mem_cons, List.not_mem_nil, or_false] at hu
 rcases hu with rfl | rfl <;> rfl)
def ltI (x y : Item) : Bool := decide (x.1 < y.1)
theorem swo_ltI : SWO ltI where
 irrefl x := by simp [ltI, List.lt_irrefl]
 trans x y z h1 h2 := by simp only [ltI, decide_eq_true_eq] at *; exact List.lt_trans h1 h2
 ntrans x y z h1 h2 := by
  simp only [ltI, decide_eq_false_iff_not, List.not_lt] at *
  exact List.le_trans h2 h1
noncomputable def itT : TypeInfo := (Tryz.prog.info? 90).get (by kernel_rfl)
noncomputable def itE : TypeInfo := (Tryz.prog.info? 97).get (by kernel_rfl)
theorem itK (n : Nat) (h2 : 2 ≤ n) : Lib.swapperK n itE 25 = 9 := by
 have a : itE.hasPointers = true := by kernel_rfl
 have b : itE.bytes = 32 := by kernel_rfl
 have c : (n == 0) = false := by simp; omega
 have d : (n == 1) = false := by simp; omega
 simp [Lib.swapperK, a, b, c, d]
theorem itK1 : Lib.swapperK 1 itE 25 = 2 := rfl
set_option maxHeartbeats 2000000 in
theorem less_item (blk c Bs size : Nat) (W : World) (G : Nat → ByteArray) (hs : W.cell? ⟨Bs, 0, none⟩ = some (.slice (some ⟨blk, 0, none⟩) size c))
  (hc : ∀ t, t < size → W.cell? ⟨blk, t * 2, none⟩ = some (.string (G t))) (i j : Nat) (hi : i < size) (hj : j < size) :
  Calls Tryz.prog 66 #[.int .i64 i, .int .i64 j, .pointer (some ⟨Bs, 0, none⟩)] W fun e w' => e = .returned (.bool (Op.bytesLess (G i).toList (G j).toList)) ∧ ∃ q, w' = W.drewN q := by
 have ci := hc i hi
 have cj := hc j hj
 go_enter Tryz.func66, Tryz.ntmps66
 go_wp2_with fail
 go_quiet (fail)
 go_wp2_with fail
 go_ret
 exact ⟨rfl, nq, rfl⟩
theorem less_items (l : List Item) (g gB c : Nat) (w : World) (hH : HoldsK itemC 2 w g 0 l.toArray) (hg : g < w.heap.size) (hB : w.cell? ⟨gB, 0, none⟩ = some (.slice (some ⟨g, 0, none⟩) l.length c)) (hB1 : gB < w.heap.size) (hB2 : gB ≠ g) :
  LessReadsK Tryz.prog 66 #[.pointer (some ⟨gB, 0, none⟩)] itemC 2 ltI g 0 l.toArray.size w := by
 intro m os dk hs i j hi hj
 have e : sortWorldK itemC 2 w g 0 m dk os = putRowK itemC 2 (Go.Sort.grow (Go.Sort.ahead w m) os) g 0 dk := by
  unfold sortWorldK; rw [Go.Sort.putRowK_grow _ _ (Go.Sort.ahead w m) _ g 0 _ hg]
 have hHg : HoldsK itemC 2 (Go.Sort.grow (Go.Sort.ahead w m) os) g 0 l.toArray := Go.Sort.holdsK_grow _ _ _ _ g 0 _ hg (Go.Sort.holdsK_ahead _ _ _ _ _ _ _ hH)
 have hsz : l.toArray.size = l.length := by simp
 refine (less_item g c gB l.length _ (fun t => ⟨dk[t]!.1.toArray⟩) ?_ (fun t ht => ?_) i j (by omega) (by omega)).mono ?_
 ·rw [e, Go.Sort.cell?_putRowK_other _ _ _ g 0 dk _ (by exact hB2), Go.Sort.cell?_grow _ _ _ (by exact hB1)]; exact hB
 ·have := ((Go.Sort.holdsK_putRowK _ _ _ g 0 l.toArray dk hHg hs).cell (i := t) (c := 0) (by omega) (by omega)).1
  rw [e]
  simpa [itemC] using this
 ·rintro e9 w' ⟨rfl, q, rfl⟩
  refine ⟨?_, q, rfl⟩
  rw [Go.Proofs.bytesLess_eq, ByteArray.toList_eq, ByteArray.toList_eq]
  rfl
theorem holds_items {l : List Item} {g cap : Nat} {T : TypeId} {base : Nat} {w : World} (h : Own RItem 2 T w base No (.slice (some ⟨g, 0, none⟩) l.length cap) l) : HoldsK itemC 2 w g 0 l.toArray := fun t ht => by
 have ht' : t < l.length * 2 := by simpa [flatK] using ht
 obtain ⟨g', cap', ys, hv', -, -, -, -, hr, hcell, hfr⟩ := h.at_ (i := t / 2) (by omega)
 simp only [Value.slice.injEq, Option.some.injEq, Addr.mk.injEq] at hv'
 obtain ⟨⟨rfl, -, -⟩, -, -⟩ := hv'
 have hr' : ys = itemC l[t / 2] := hr
 subst hr'
 refine ⟨?_, hfr _⟩
 rw [Go.Sort.get_flatK itemC 2 _ t (by simpa using ht'), getElem!_pos l.toArray (t / 2) (by simp; omega), Nat.zero_add]
 have h2 : t / 2 * 2 + t % 2 = t := by omega
 rcases (show t % 2 = 0 ∨ t % 2 = 1 by omega) with e | e
 ·have := hcell 0 _ rfl
  rw [e] at h2
  rw [h2] at this
  rw [this, e]
  simp [itemC]
 ·have := hcell 1 _ rfl
  rw [e] at h2
  rw [h2] at this
  rw [this, e]
  simp [itemC]
theorem sortItems_any (l : List Item) (h1 : 1 ≤ l.length) (h12 : l.length ≤ 12) (v : Value) (base gB : Nat) (w : World) (h : Own RItem 2 97 w base No v l) (hB : w.cell? ⟨gB, 0, none⟩ = some v) (hgB : gB < base) :
  Calls Tryz.prog 65 #[.iface 90 v, .func (.func 66) #[] #[.pointer (some ⟨gB, 0, none⟩)]] w fun e w' => e = .returned (.tuple #[]) ∧
   ∃ l' : List Item, l'.Perm l ∧ l'.Pairwise (fun x y => ¬ y.1 < x.1) ∧ Sl RItem 2 w' (Lt w'.heap.size) l' [v] ∧ Below base w w' := by
 obtain ⟨g, cap, ys0, hv, hbg, hgl, hnc, hcm, -, -, hfr⟩ := h.at_ (i := 0) (by omega)
 subst hv
 have hH := holds_items h
 by_cases h2 : 2 ≤ l.length
 ·have hsz : l.toArray.size = l.length := by simp
  have key := Any.sort_Slice_small_cells_sorted Tryz.laysGg6 90 97 itT itE (by kernel_rfl) (by kernel_rfl) (by kernel_rfl) (by kernel_rfl) 25 (fun _ => by kernel_rfl) itemC 2 (fun _ => rfl) (by kernel_rfl) (fun _ => by kernel_rfl)
   (fun x v hv => by simp [itemC] at hv; rcases hv with rfl | rfl <;> rfl) ltI swo_ltI 66 #[.pointer (some ⟨gB, 0, none⟩)]
   (enters_of Tryz.func66 (by kernel_rfl) rfl) g 0 cap l.toArray (by rw [hsz]; exact h2) (by rw [hsz]; exact h12) 151 (by rw [itK _ (by rw [hsz]; exact h2)]; kernel_rfl) false
   (fun args W => run_callFunc_extern Tryz.func151 (by kernel_rfl) (by kernel_rfl) (by kernel_rfl) (e := Extern.ReflectliteSwapper.swap false) (by kernel_rfl) args W) w (less_items l g gB cap w hH hgl hB (World.block_lt_of_cell? w ⟨gB, 0, none⟩ hB) (by omega)) hH hgl
  rw [hsz] at key
  refine key.mono ?_
  rintro e w' ⟨rfl, d', n, os, hp, hso, rfl⟩
  obtain ⟨hd1, -, hd3⟩ := hp
  have hd0 : d'.size = l.length := by rw [hd1]; exact hsz
  have e1 : (d'.extract 0 l.length).toList = d'.toList := by rw [← hd0]; simp
  have e2 : (l.toArray.extract 0 l.length).toList = l := by simp
  rw [e1, e2] at hd3
  have hHp := Go.Sort.holdsK_putRowK (enc := itemC) (k := 2) (Go.Sort.ahead w n) g 0 l.toArray d' (Go.Sort.holdsK_ahead _ _ _ _ _ _ _ hH) (by rw [hd1])
  have hzp : (putRowK itemC 2 (Go.Sort.ahead w n) g 0 d').heap.size = w.heap.size := by simp [putRowK, Go.Sort.putRow, Go.Sort.mapBlock, Go.Sort.ahead]
  have hgs : (Go.Sort.grow (putRowK itemC 2 (Go.Sort.ahead w n) g 0 d') os).heap.size = w.heap.size + os.size := by simp [Go.Sort.grow, hzp]
  refine ⟨rfl, d'.toList, hd3, ?_, ⟨_, cap, by simp [hd0], by simp [hd0]; exact hnc, hcm, fun _ => ⟨g, 0, rfl, by show g < _; rw [hgs]; omega, fun i x hx => ⟨itemC x, rfl, fun j u hu => ?_⟩⟩⟩, ⟨rfl, rfl, rfl, by rw [hgs]; omega, fun k hk => ?_⟩⟩
  ·rw [List.pairwise_iff_getElem]
   intro i j hi hj hij
   have := hso i j (by omega) hij (by simpa [hd0] using hj)
   rw [getElem!_pos d' i (by simpa using hi), getElem!_pos d' j (by simpa using hj)] at this
   simpa [ltI] using this
  ·obtain ⟨hi, rfl⟩ := List.getElem?_eq_some_iff.1 hx
   have hi' : i < d'.size := by simpa using hi
   have hj : j < 2 := by
    have : (itemC d'.toList[i]).length = 2 := rfl
    rw [← this]; exact (List.getElem?_eq_some_iff.1 hu).1
   have := (hHp.cell (i := i) (c := j) hi' hj).1
   rw [Nat.zero_add] at this
   rw [Nat.zero_add, Go.Sort.cell?_grow _ _ _ (by rw [hzp]; exact hgl), this, getElem!_pos d' i hi']
   have h9 : (itemC d'[i])[j]! = u := by
    obtain ⟨h8, h9⟩ := List.getElem?_eq_some_iff.1 hu
    rw [← h9, getElem!_pos _ j h8]
    rfl
   rw [h9]
  ·have hkg : k ≠ g := by omega
   rw [Go.Sort.heap_grow_old _ _ (by rw [hzp]; omega)]
   simp only [putRowK, Go.Sort.putRow, Go.Sort.mapBlock, Go.Sort.ahead, Array.getElem?_modify]
   rw [if_neg (fun e => hkg e.symm)]
 ·have hl1 : l.length = 1 := by omega
  have key := Any.sort_Slice_tiny Tryz.laysGg6 90 97 itT itE (by kernel_rfl) (by kernel_rfl) (by kernel_rfl) (by kernel_rfl) 25 (fun _ => by kernel_rfl) (some ⟨g, 0, none⟩) 1 cap (by omega) 144 (by rw [itK1]; kernel_rfl) (.func 66) #[] #[.pointer (some ⟨gB, 0, none⟩)] w
  rw [hl1]
  refine key.mono ?_
  rintro e w' ⟨rfl, os, rfl⟩
  have hgs : (Go.Sort.grow w os).heap.size = w.heap.size + os.size := by simp [Go.Sort.grow]
  have hb : Below base w (Go.Sort.grow w os) := ⟨rfl, rfl, rfl, by rw [hgs]; omega, fun k hk => Go.Sort.heap_grow_old _ _ (by omega)⟩
  have hsl := (Sl.ok RItem.ok).mono (h.sl RItem.ok) (w' := Go.Sort.grow w os) (S' := Lt (Go.Sort.grow w os).heap.size) (fun k hk => by
   rcases hk with hk | hk
   ·exact hk.elim
   ·exact Go.Sort.heap_grow_old _ _ hk.2) (fun k hk => by
   rcases hk with hk | hk
   ·exact hk.elim
   ·show k < _; rw [hgs]; have := hk.2; omega)
  rw [hl1] at hsl
  refine ⟨rfl, l, List.Perm.refl _, ?_, hsl, hb⟩
  match l, hl1 with
  | [x], _ => simp
end Go.Proofs.YtmgnihmjjijdoaaGreatDoor
