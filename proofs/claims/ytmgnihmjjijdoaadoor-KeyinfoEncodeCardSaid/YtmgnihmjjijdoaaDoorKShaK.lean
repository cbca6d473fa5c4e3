/- The program's hash: what one block keeps in memory. -/
import Derived.Test.YtmgnihmjjijdoaaDoorKShaH
import Derived.Test.YtmgnihmjjijdoaaDoorKShaB
import Derived.Test.YtmgnihmjjijdoaaDoorKGLibI
namespace Go.Proofs.YtmgnihmjjijdoaaDoor
open Go.RowKit
def S8.arr (s : S8) : Array Value := #[.int .u32 (W32 s.a), .int .u32 (W32 s.b), .int .u32 (W32 s.c), .int .u32 (W32 s.d), .int .u32 (W32 s.e), .int .u32 (W32 s.f), .int .u32 (W32 s.g), .int .u32 (W32 s.h)]
def HV (g : Nat) (s : S8) (W : World) : Prop := W.heap[g]? = some (.cells s.arr 96 (0, 0))
theorem HV.lt {g : Nat} {s : S8} {W : World} (h : HV g s W) : g < W.heap.size := (Array.getElem?_eq_some_iff.1 h).1
theorem HV.below {g : Nat} {s : S8} {W W' : World} (h : HV g s W) (hb : Below W.heap.size W W') : HV g s W' := (hb.block g h.lt).trans h
theorem HV.new (w : World) (s : S8) : HV w.heap.size s (w.alloc (.cells s.arr 96)) := heap_alloc_new w _
theorem HV.facts {g : Nat} {s : S8} {W : World} (h : HV g s W) : W.cell? ⟨g, 0, none⟩ = some (.int .u32 (W32 s.a)) ∧ W.cell? ⟨g, 1, none⟩ = some (.int .u32 (W32 s.b)) ∧ W.cell? ⟨g, 2, none⟩ = some (.int .u32 (W32 s.c)) ∧ W.cell? ⟨g, 3, none⟩ = some (.int .u32 (W32 s.d)) ∧
  W.cell? ⟨g, 4, none⟩ = some (.int .u32 (W32 s.e)) ∧ W.cell? ⟨g, 5, none⟩ = some (.int .u32 (W32 s.f)) ∧ W.cell? ⟨g, 6, none⟩ = some (.int .u32 (W32 s.g)) ∧ W.cell? ⟨g, 7, none⟩ = some (.int .u32 (W32 s.h)) := by
 unfold HV S8.arr at h
 simp [World.cell?, h]
theorem HV.keep {g : Nat} {s : S8} {W W' : World} (h : HV g s W) (he : W'.heap[g]? = W.heap[g]?) : HV g s W' := he.trans h
def zeroS : S8 := ⟨0, 0, 0, 0, 0, 0, 0, 0⟩
structure BSt (w : World) (gH gR gW : Nat) (s : S8) (f : Nat → UInt32) (W : World) : Prop where
 below : Below w.heap.size w W
 h : HV gH s W
 r : HV gR zeroS W
 a : A64 gW f W
 hH : w.heap.size ≤ gH
 hR : gH < gR
 hW : gR < gW
theorem BSt.store {w : World} {gH gR gW : Nat} {s : S8} {f f' : Nat → UInt32} {W : World} (h : BSt w gH gR gW s f W) {i : Nat} {v : UInt32} (hi : f' i = v) (hf : ∀ j, j < 64 → j ≠ i → f' j = f j) : BSt w gH gR gW s f' (W.setCell ⟨gW, i, none⟩ (.int .u32 (W32 v))) :=
 ⟨h.below.setCell (p := ⟨gW, i, none⟩) (by have := h.hH; have := h.hR; have := h.hW; show _ ≤ gW; omega) _, h.h.keep (Below.heap_setCell W ⟨gW, i, none⟩ _ gH (by have := h.hR; have := h.hW; show gH ≠ gW; omega)),
  h.r.keep (Below.heap_setCell W ⟨gW, i, none⟩ _ gR (by have := h.hW; show gR ≠ gW; omega)), h.a.store hi hf, h.hH, h.hR, h.hW⟩
theorem BSt.below' {w : World} {gH gR gW : Nat} {s : S8} {f : Nat → UInt32} {W W' : World} (h : BSt w gH gR gW s f W) (hb : Below W.heap.size W W') : BSt w gH gR gW s f W' :=
 ⟨h.below.trans (hb.mono h.below.size), h.h.below hb, h.r.below hb, h.a.below hb, h.hH, h.hR, h.hW⟩
theorem BSt.drewN {w : World} {gH gR gW : Nat} {s : S8} {f : Nat → UInt32} {W : World} (h : BSt w gH gR gW s f W) (n : Nat) : BSt w gH gR gW s f (W.drewN n) :=
 ⟨below_drewN h.below n, h.h, h.r, h.a, h.hH, h.hR, h.hW⟩
theorem BSt.drew {w : World} {gH gR gW : Nat} {s : S8} {f : Nat → UInt32} {W : World} (h : BSt w gH gR gW s f W) : BSt w gH gR gW s f W.drew :=
 ⟨⟨h.below.os, h.below.tape, h.below.output, h.below.size, h.below.block⟩, h.h, h.r, h.a, h.hH, h.hR, h.hW⟩
theorem Sl.byteAt9 {w : World} {S : Nat → Prop} {b o n c : Nat} {l : List UInt8} (h : Sl RByte 1 w S l [.slice (some ⟨b, o, none⟩) n c]) {i : Nat} (hi : i < l.length) : S b ∧ w.cell? ⟨b, o + i, none⟩ = some (.int .u8 (l[i].toNat : Int)) := by
 obtain ⟨b', o', xs', hA', hS, hr, hcell⟩ := h.at_ hi
 cases hA'
 have hr' : xs' = byteC _ := hr
 subst hr'
 have := hcell 0 _ rfl
 rw [Nat.mul_one, Nat.add_zero] at this
 exact ⟨hS, this⟩
theorem getD_l (l : List UInt8) (n : Nat) (h : n < l.length) : l.getD n 0 = l[n] := by simp [List.getD, List.getElem?_eq_getElem h]
structure VSt (w : World) (gH gR gW gK gV : Nat) (s t : S8) (b : List UInt8) (W : World) : Prop where
 b : BSt w gH gR gW s (f64 b 64) W
 k : A64 gK kS W
 v : HV gV t W
 hK : gW < gK
 hV : gK < gV
theorem VSt.below' {w : World} {gH gR gW gK gV : Nat} {s t : S8} {b : List UInt8} {W W' : World} (h : VSt w gH gR gW gK gV s t b W) (hb : Below W.heap.size W W') : VSt w gH gR gW gK gV s t b W' :=
 ⟨h.b.below' hb, h.k.below hb, h.v.below hb, h.hK, h.hV⟩
def set8 (W : World) (g : Nat) (t : S8) : World :=
 (((((((W.setCell ⟨g, 0, none⟩ (.int .u32 (W32 t.a))).setCell ⟨g, 1, none⟩ (.int .u32 (W32 t.b))).setCell ⟨g, 2, none⟩ (.int .u32 (W32 t.c))).setCell ⟨g, 3, none⟩ (.int .u32 (W32 t.d))).setCell ⟨g, 4, none⟩ (.int .u32 (W32 t.e))).setCell ⟨g, 5, none⟩ (.int .u32 (W32 t.f))).setCell ⟨g, 6, none⟩ (.int .u32 (W32 t.g))).setCell ⟨g, 7, none⟩ (.int .u32 (W32 t.h))
theorem set8_other {W : World} {g k : Nat} (t : S8) (h : k ≠ g) : (set8 W g t).heap[k]? = W.heap[k]? := by
 unfold set8
 rw [Below.heap_setCell _ ⟨g, 7, none⟩ _ k h, Below.heap_setCell _ ⟨g, 6, none⟩ _ k h, Below.heap_setCell _ ⟨g, 5, none⟩ _ k h, Below.heap_setCell _ ⟨g, 4, none⟩ _ k h, Below.heap_setCell _ ⟨g, 3, none⟩ _ k h, Below.heap_setCell _ ⟨g, 2, none⟩ _ k h, Below.heap_setCell _ ⟨g, 1, none⟩ _ k h, Below.heap_setCell _ ⟨g, 0, none⟩ _ k h]
theorem set8_self {W : World} {g : Nat} {s : S8} (t : S8) (h : HV g s W) : HV g t (set8 W g t) := by
 unfold HV set8 at *
 simp [World.setCell, Array.getElem?_modify, h, S8.arr]
theorem set8_below {B g : Nat} {w W : World} (t : S8) (hb : Below B w W) (hg : B ≤ g) : Below B w (set8 W g t) :=
 (((((((hb.setCell (p := ⟨g, 0, none⟩) hg _).setCell (p := ⟨g, 1, none⟩) hg _).setCell (p := ⟨g, 2, none⟩) hg _).setCell (p := ⟨g, 3, none⟩) hg _).setCell (p := ⟨g, 4, none⟩) hg _).setCell (p := ⟨g, 5, none⟩) hg _).setCell (p := ⟨g, 6, none⟩) hg _).setCell (p := ⟨g, 7, none⟩) hg _
theorem VSt.step {w : World} {gH gR gW gK gV : Nat} {s t : S8} {b : List UInt8} {W : World} (h : VSt w gH gR gW gK gV s t b W) (t' : S8) : VSt w gH gR gW gK gV s t' b (set8 W gV t') := by
 have h1 := h.b.hH
 have h2 := h.b.hR
 have h3 := h.b.hW
 have h4 := h.hK
 have h5 := h.hV
 exact ⟨⟨set8_below t' h.b.below (by omega), h.b.h.keep (set8_other t' (by omega)), h.b.r.keep (set8_other t' (by omega)), h.b.a.keep (set8_other t' (by omega)), h1, h2, h3⟩, h.k.keep (set8_other t' (by omega)), set8_self t' h.v, h4, h5⟩
theorem HV.frozen {g : Nat} {s : S8} {W : World} (h : HV g s W) (i : Nat) : W.frozen? ⟨g, i, none⟩ = false := by
 unfold HV at h
 simp [World.frozen?, h]
theorem VSt.drew {w : World} {gH gR gW gK gV : Nat} {s t : S8} {b : List UInt8} {W : World} (h : VSt w gH gR gW gK gV s t b W) : VSt w gH gR gW gK gV s t b W.drew := ⟨h.b.drew, h.k, h.v, h.hK, h.hV⟩
theorem VSt.drewN {w : World} {gH gR gW gK gV : Nat} {s t : S8} {b : List UInt8} {W : World} (h : VSt w gH gR gW gK gV s t b W) (n : Nat) : VSt w gH gR gW gK gV s t b (W.drewN n) := ⟨h.b.drewN n, h.k, h.v, h.hK, h.hV⟩
def S8.get (s : S8) : Nat → UInt32
 | 0 => s.a
 | 1 => s.b
 | 2 => s.c
 | 3 => s.d
 | 4 => s.e
 | 5 => s.f
 | 6 => s.g
 | _ => s.h
def mixS (s t : S8) (k : Nat) : S8 :=
 ⟨if 0 < k then t.a + s.a else t.a, if 1 < k then t.b + s.b else t.b, if 2 < k then t.c + s.c else t.c, if 3 < k then t.d + s.d else t.d, if 4 < k then t.e + s.e else t.e, if 5 < k then t.f + s.f else t.f, if 6 < k then t.g + s.g else t.g, if 7 < k then t.h + s.h else t.h⟩
theorem HV.get {g : Nat} {s : S8} {W : World} (h : HV g s W) : ∀ q, q < 8 → W.cell? ⟨g, q, none⟩ = some (.int .u32 (W32 (s.get q)))
 | 0, _ => h.facts.1
 | 1, _ => h.facts.2.1
 | 2, _ => h.facts.2.2.1
 | 3, _ => h.facts.2.2.2.1
 | 4, _ => h.facts.2.2.2.2.1
 | 5, _ => h.facts.2.2.2.2.2.1
 | 6, _ => h.facts.2.2.2.2.2.2.1
 | 7, _ => h.facts.2.2.2.2.2.2.2
 | q + 8, h => absurd h (by omega)
theorem mixS_get (s t : S8) : ∀ q, q < 8 → (mixS s t q).get q = t.get q
 | 0, _ => rfl
 | 1, _ => rfl
 | 2, _ => rfl
 | 3, _ => rfl
 | 4, _ => rfl
 | 5, _ => rfl
 | 6, _ => rfl
 | 7, _ => rfl
 | q + 8, h => absurd h (by omega)
theorem HV.mix {g : Nat} {s t : S8} {W : World} : ∀ q, q < 8 → HV g (mixS s t q) W → HV g (mixS s t (q + 1)) (W.setCell ⟨g, q, none⟩ (.int .u32 (W32 (t.get q + s.get q))))
  | 0, _, h => by
    unfold HV S8.arr mixS at *
    simp [World.setCell, Array.getElem?_modify, h, S8.get]
  | 1, _, h => by
    unfold HV S8.arr mixS at *
    simp [World.setCell, Array.getElem?_modify, h, S8.get]
  | 2, _, h => by
    unfold HV S8.arr mixS at *
    simp [World.setCell, Array.getElem?_modify, h, S8.get]
  | 3, _, h => by
    unfold HV S8.arr mixS at *
    simp [World.setCell, Array.getElem?_modify, h, S8.get]
  | 4, _, h => by
    unfold HV S8.arr mixS at *
    simp [World.setCell, Array.getElem?_modify, h, S8.get]
  | 5, _, h => by
    unfold HV S8.arr mixS at *
    simp [World.setCell, Array.getElem?_modify, h, S8.get]
  | 6, _, h => by
    unfold HV S8.arr mixS at *
    simp [World.setCell, Array.getElem?_modify, h, S8.get]
  | 7, _, h => by
    unfold HV S8.arr mixS at *
    simp [World.setCell, Array.getElem?_modify, h, S8.get]
  | q + 8, h, _ => absurd h (by omega)
theorem VSt.put {w : World} {gH gR gW gK gV : Nat} {s t t' : S8} {b : List UInt8} {W : World} {i : Nat} {u : Value} (h : VSt w gH gR gW gK gV s t b W) (hv : HV gV t' (W.setCell ⟨gV, i, none⟩ u)) : VSt w gH gR gW gK gV s t' b (W.setCell ⟨gV, i, none⟩ u) := by
 have h1 := h.b.hH
 have h2 := h.b.hR
 have h3 := h.b.hW
 have h4 := h.hK
 have h5 := h.hV
 have ho : ∀ j, j ≠ gV → (W.setCell ⟨gV, i, none⟩ u).heap[j]? = W.heap[j]? := fun j hj => Below.heap_setCell _ ⟨gV, i, none⟩ _ j hj
 exact ⟨⟨h.b.below.setCell (p := ⟨gV, i, none⟩) (by show _ ≤ gV; omega) _, h.b.h.keep (ho _ (by omega)), h.b.r.keep (ho _ (by omega)), h.b.a.keep (ho _ (by omega)), h1, h2, h3⟩, h.k.keep (ho _ (by omega)), hv, h4, h5⟩
structure J9 (gW k q : Nat) (x : UInt32) (St : World → Prop) (dd : Nat → Bool) (val : Nat → Value) (W : World) : Prop where
 st : St W
 v62 : dd 0 = true → val 62 = .int .i64 (k : Int)
 v63 : dd 1 = true → val 63 = .int .i64 (q : Int)
 v64 : dd 2 = true → val 64 = .pointer (some ⟨gW, q, none⟩)
 v65 : dd 3 = true → val 65 = .int .u32 (W32 (x))
 v66 : dd 4 = true → val 66 = .int .u32 (W32 ((x >>> 7 ||| x <<< 25)))
 v67 : dd 5 = true → val 67 = .int .i64 (k : Int)
 v68 : dd 6 = true → val 68 = .int .i64 (q : Int)
 v69 : dd 7 = true → val 69 = .pointer (some ⟨gW, q, none⟩)
 v70 : dd 8 = true → val 70 = .int .u32 (W32 (x))
 v71 : dd 9 = true → val 71 = .int .u32 (W32 ((x >>> 18 ||| x <<< 14)))
 v72 : dd 10 = true → val 72 = .int .u32 (W32 ((x >>> 7 ||| x <<< 25) ^^^ (x >>> 18 ||| x <<< 14)))
 v73 : dd 11 = true → val 73 = .int .i64 (k : Int)
 v74 : dd 12 = true → val 74 = .int .i64 (q : Int)
 v75 : dd 13 = true → val 75 = .pointer (some ⟨gW, q, none⟩)
 v76 : dd 14 = true → val 76 = .int .u32 (W32 (x))
 v77 : dd 15 = true → val 77 = .int .u32 (W32 (x >>> 3))
 v78 : dd 16 = true → val 78 = .int .u32 (W32 ((x >>> 7 ||| x <<< 25) ^^^ (x >>> 18 ||| x <<< 14) ^^^ x >>> 3))
 v8 : dd 17 = true → val 8 = .int .u32 (W32 ((x >>> 7 ||| x <<< 25) ^^^ (x >>> 18 ||| x <<< 14) ^^^ x >>> 3))
structure J10 (gW k q : Nat) (x : UInt32) (St : World → Prop) (dd : Nat → Bool) (val : Nat → Value) (W : World) : Prop where
 st : St W
 v79 : dd 0 = true → val 79 = .int .i64 (k : Int)
 v80 : dd 1 = true → val 80 = .int .i64 (q : Int)
 v81 : dd 2 = true → val 81 = .pointer (some ⟨gW, q, none⟩)
 v82 : dd 3 = true → val 82 = .int .u32 (W32 (x))
 v83 : dd 4 = true → val 83 = .int .u32 (W32 ((x >>> 17 ||| x <<< 15)))
 v84 : dd 5 = true → val 84 = .int .i64 (k : Int)
 v85 : dd 6 = true → val 85 = .int .i64 (q : Int)
 v86 : dd 7 = true → val 86 = .pointer (some ⟨gW, q, none⟩)
 v87 : dd 8 = true → val 87 = .int .u32 (W32 (x))
 v88 : dd 9 = true → val 88 = .int .u32 (W32 ((x >>> 19 ||| x <<< 13)))
 v89 : dd 10 = true → val 89 = .int .u32 (W32 ((x >>> 17 ||| x <<< 15) ^^^ (x >>> 19 ||| x <<< 13)))
 v90 : dd 11 = true → val 90 = .int .i64 (k : Int)
 v91 : dd 12 = true → val 91 = .int .i64 (q : Int)
 v92 : dd 13 = true → val 92 = .pointer (some ⟨gW, q, none⟩)
 v93 : dd 14 = true → val 93 = .int .u32 (W32 (x))
 v94 : dd 15 = true → val 94 = .int .u32 (W32 (x >>> 10))
 v95 : dd 16 = true → val 95 = .int .u32 (W32 ((x >>> 17 ||| x <<< 15) ^^^ (x >>> 19 ||| x <<< 13) ^^^ x >>> 10))
 v9 : dd 17 = true → val 9 = .int .u32 (W32 ((x >>> 17 ||| x <<< 15) ^^^ (x >>> 19 ||| x <<< 13) ^^^ x >>> 10))
structure J17 (gV : Nat) (x : UInt32) (St : World → Prop) (dd : Nat → Bool) (val : Nat → Value) (W : World) : Prop where
 st : St W
 v117 : dd 0 = true → val 117 = .pointer (some ⟨gV, 4, none⟩)
 v118 : dd 1 = true → val 118 = .int .u32 (W32 (x))
 v119 : dd 2 = true → val 119 = .int .u32 (W32 ((x >>> 6 ||| x <<< 26)))
 v120 : dd 3 = true → val 120 = .pointer (some ⟨gV, 4, none⟩)
 v121 : dd 4 = true → val 121 = .int .u32 (W32 (x))
 v122 : dd 5 = true → val 122 = .int .u32 (W32 ((x >>> 11 ||| x <<< 21)))
 v123 : dd 6 = true → val 123 = .int .u32 (W32 ((x >>> 6 ||| x <<< 26) ^^^ (x >>> 11 ||| x <<< 21)))
 v124 : dd 7 = true → val 124 = .pointer (some ⟨gV, 4, none⟩)
 v125 : dd 8 = true → val 125 = .int .u32 (W32 (x))
 v126 : dd 9 = true → val 126 = .int .u32 (W32 ((x >>> 25 ||| x <<< 7)))
 v127 : dd 10 = true → val 127 = .int .u32 (W32 ((x >>> 6 ||| x <<< 26) ^^^ (x >>> 11 ||| x <<< 21) ^^^ (x >>> 25 ||| x <<< 7)))
 v13 : dd 11 = true → val 13 = .int .u32 (W32 ((x >>> 6 ||| x <<< 26) ^^^ (x >>> 11 ||| x <<< 21) ^^^ (x >>> 25 ||| x <<< 7)))
structure J19 (gV gK gW k : Nat) (th x ch kk ww : UInt32) (St : World → Prop) (dd : Nat → Bool) (val : Nat → Value) (W : World) : Prop where
 st : St W
 v140 : dd 0 = true → val 140 = .pointer (some ⟨gV, 7, none⟩)
 v141 : dd 1 = true → val 141 = .int .u32 (W32 (th))
 v142 : dd 2 = true → val 142 = .int .u32 (W32 (x))
 v143 : dd 3 = true → val 143 = .int .u32 (W32 (th + x))
 v144 : dd 4 = true → val 144 = .int .u32 (W32 (ch))
 v145 : dd 5 = true → val 145 = .int .u32 (W32 (th + x + ch))
 v146 : dd 6 = true → val 146 = .int .i64 (k : Int)
 v147 : dd 7 = true → val 147 = .pointer (some ⟨gK, k, none⟩)
 v148 : dd 8 = true → val 148 = .int .u32 (W32 (kk))
 v149 : dd 9 = true → val 149 = .int .u32 (W32 (th + x + ch + kk))
 v150 : dd 10 = true → val 150 = .int .i64 (k : Int)
 v151 : dd 11 = true → val 151 = .pointer (some ⟨gW, k, none⟩)
 v152 : dd 12 = true → val 152 = .int .u32 (W32 (ww))
 v153 : dd 13 = true → val 153 = .int .u32 (W32 (th + x + ch + kk + ww))
 v15 : dd 14 = true → val 15 = .int .u32 (W32 (th + x + ch + kk + ww))
structure J20 (gV : Nat) (x : UInt32) (St : World → Prop) (dd : Nat → Bool) (val : Nat → Value) (W : World) : Prop where
 st : St W
 v154 : dd 0 = true → val 154 = .pointer (some ⟨gV, 0, none⟩)
 v155 : dd 1 = true → val 155 = .int .u32 (W32 (x))
 v156 : dd 2 = true → val 156 = .int .u32 (W32 ((x >>> 2 ||| x <<< 30)))
 v157 : dd 3 = true → val 157 = .pointer (some ⟨gV, 0, none⟩)
 v158 : dd 4 = true → val 158 = .int .u32 (W32 (x))
 v159 : dd 5 = true → val 159 = .int .u32 (W32 ((x >>> 13 ||| x <<< 19)))
 v160 : dd 6 = true → val 160 = .int .u32 (W32 ((x >>> 2 ||| x <<< 30) ^^^ (x >>> 13 ||| x <<< 19)))
 v161 : dd 7 = true → val 161 = .pointer (some ⟨gV, 0, none⟩)
 v162 : dd 8 = true → val 162 = .int .u32 (W32 (x))
 v163 : dd 9 = true → val 163 = .int .u32 (W32 ((x >>> 22 ||| x <<< 10)))
 v164 : dd 10 = true → val 164 = .int .u32 (W32 ((x >>> 2 ||| x <<< 30) ^^^ (x >>> 13 ||| x <<< 19) ^^^ (x >>> 22 ||| x <<< 10)))
 v16 : dd 11 = true → val 16 = .int .u32 (W32 ((x >>> 2 ||| x <<< 30) ^^^ (x >>> 13 ||| x <<< 19) ^^^ (x >>> 22 ||| x <<< 10)))
end Go.Proofs.YtmgnihmjjijdoaaDoor
