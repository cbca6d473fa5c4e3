/- The reference's round of SHA-256. -/
import Derived.Test.YtmgnihmjjijdoaaDoorKShaA
import Derived.BigRegion
import Derived.StillTailTactics
namespace Go.Proofs.YtmgnihmjjijdoaaDoor
open Go.RowKit
def KC (g : Nat) (W : World) : Prop := ∀ j, j < 64 → W.cell? ⟨g, j, none⟩ = some (.int .u32 (W32 (kS j)))
theorem KC.below {g : Nat} {W W' : World} (h : KC g W) (hg : g < W.heap.size) (hb : Below W.heap.size W W') : KC g W' := fun j hj => (hb.cell (p := ⟨g, j, none⟩) hg).trans (h j hj)
theorem KC.set {g d i : Nat} {v : Value} {W : World} (h : KC g W) (hd : g ≠ d) : KC g (W.setCell ⟨d, i, none⟩ v) := fun j hj => (World.cell?_of_block (w := W) (a := ⟨g, j, none⟩) (Below.heap_setCell W ⟨d, i, none⟩ v g hd)).trans (h j hj)
theorem k_arr : (#[.int .u32 1116352408, .int .u32 1899447441, .int .u32 3049323471, .int .u32 3921009573, .int .u32 961987163, .int .u32 1508970993, .int .u32 2453635748, .int .u32 2870763221, .int .u32 3624381080, .int .u32 310598401, .int .u32 607225278, .int .u32 1426881987, .int .u32 1925078388, .int .u32 2162078206, .int .u32 2614888103, .int .u32 3248222580, .int .u32 3835390401, .int .u32 4022224774, .int .u32 264347078, .int .u32 604807628, .int .u32 770255983, .int .u32 1249150122, .int .u32 1555081692, .int .u32 1996064986, .int .u32 2554220882, .int .u32 2821834349, .int .u32 2952996808, .int .u32 3210313671, .int .u32 3336571891, .int .u32 3584528711, .int .u32 113926993, .int .u32 338241895, .int .u32 666307205, .int .u32 773529912, .int .u32 1294757372, .int .u32 1396182291, .int .u32 1695183700, .int .u32 1986661051, .int .u32 2177026350, .int .u32 2456956037, .int .u32 2730485921, .int .u32 2820302411, .int .u32 3259730800, .int .u32 3345764771, .int .u32 3516065817, .int .u32 3600352804, .int .u32 4094571909, .int .u32 275423344, .int .u32 430227734, .int .u32 506948616, .int .u32 659060556, .int .u32 883997877, .int .u32 958139571, .int .u32 1322822218, .int .u32 1537002063, .int .u32 1747873779, .int .u32 1955562222, .int .u32 2024104815, .int .u32 2227730452, .int .u32 2361852424, .int .u32 2428436474, .int .u32 2756734187, .int .u32 3204031479, .int .u32 3329325298] : Array Value) = (kL.map fun x => Value.int .u32 (W32 x)).toArray := rfl
theorem k_new (w : World) (t : TypeId) : KC w.heap.size (w.alloc (.cells #[.int .u32 1116352408, .int .u32 1899447441, .int .u32 3049323471, .int .u32 3921009573, .int .u32 961987163, .int .u32 1508970993, .int .u32 2453635748, .int .u32 2870763221, .int .u32 3624381080, .int .u32 310598401, .int .u32 607225278, .int .u32 1426881987, .int .u32 1925078388, .int .u32 2162078206, .int .u32 2614888103, .int .u32 3248222580, .int .u32 3835390401, .int .u32 4022224774, .int .u32 264347078, .int .u32 604807628, .int .u32 770255983, .int .u32 1249150122, .int .u32 1555081692, .int .u32 1996064986, .int .u32 2554220882, .int .u32 2821834349, .int .u32 2952996808, .int .u32 3210313671, .int .u32 3336571891, .int .u32 3584528711, .int .u32 113926993, .int .u32 338241895, .int .u32 666307205, .int .u32 773529912, .int .u32 1294757372, .int .u32 1396182291, .int .u32 1695183700, .int .u32 1986661051, .int .u32 2177026350, .int .u32 2456956037, .int .u32 2730485921, .int .u32 2820302411, .int .u32 3259730800, .int .u32 3345764771, .int .u32 3516065817, .int .u32 3600352804, .int .u32 4094571909, .int .u32 275423344, .int .u32 430227734, .int .u32 506948616, .int .u32 659060556, .int .u32 883997877, .int .u32 958139571, .int .u32 1322822218, .int .u32 1537002063, .int .u32 1747873779, .int .u32 1955562222, .int .u32 2024104815, .int .u32 2227730452, .int .u32 2361852424, .int .u32 2428436474, .int .u32 2756734187, .int .u32 3204031479, .int .u32 3329325298] t)) := fun j hj => by
 rw [World.cell?_alloc_new, k_arr]
 have hj' : j < kL.length := hj
 simp [kS, List.getD, List.getElem?_eq_getElem hj']
theorem z_arr : (#[.int .u32 0, .int .u32 0, .int .u32 0, .int .u32 0, .int .u32 0, .int .u32 0, .int .u32 0, .int .u32 0, .int .u32 0, .int .u32 0, .int .u32 0, .int .u32 0, .int .u32 0, .int .u32 0, .int .u32 0, .int .u32 0, .int .u32 0, .int .u32 0, .int .u32 0, .int .u32 0, .int .u32 0, .int .u32 0, .int .u32 0, .int .u32 0, .int .u32 0, .int .u32 0, .int .u32 0, .int .u32 0, .int .u32 0, .int .u32 0, .int .u32 0, .int .u32 0, .int .u32 0, .int .u32 0, .int .u32 0, .int .u32 0, .int .u32 0, .int .u32 0, .int .u32 0, .int .u32 0, .int .u32 0, .int .u32 0, .int .u32 0, .int .u32 0, .int .u32 0, .int .u32 0, .int .u32 0, .int .u32 0, .int .u32 0, .int .u32 0, .int .u32 0, .int .u32 0, .int .u32 0, .int .u32 0, .int .u32 0, .int .u32 0, .int .u32 0, .int .u32 0, .int .u32 0, .int .u32 0, .int .u32 0, .int .u32 0, .int .u32 0, .int .u32 0] : Array Value) = Array.replicate 64 (.int .u32 (W32 0)) := rfl
theorem z_new (w : World) (t : TypeId) : A64 w.heap.size (fun _ => 0) (w.alloc (.cells #[.int .u32 0, .int .u32 0, .int .u32 0, .int .u32 0, .int .u32 0, .int .u32 0, .int .u32 0, .int .u32 0, .int .u32 0, .int .u32 0, .int .u32 0, .int .u32 0, .int .u32 0, .int .u32 0, .int .u32 0, .int .u32 0, .int .u32 0, .int .u32 0, .int .u32 0, .int .u32 0, .int .u32 0, .int .u32 0, .int .u32 0, .int .u32 0, .int .u32 0, .int .u32 0, .int .u32 0, .int .u32 0, .int .u32 0, .int .u32 0, .int .u32 0, .int .u32 0, .int .u32 0, .int .u32 0, .int .u32 0, .int .u32 0, .int .u32 0, .int .u32 0, .int .u32 0, .int .u32 0, .int .u32 0, .int .u32 0, .int .u32 0, .int .u32 0, .int .u32 0, .int .u32 0, .int .u32 0, .int .u32 0, .int .u32 0, .int .u32 0, .int .u32 0, .int .u32 0, .int .u32 0, .int .u32 0, .int .u32 0, .int .u32 0, .int .u32 0, .int .u32 0, .int .u32 0, .int .u32 0, .int .u32 0, .int .u32 0, .int .u32 0, .int .u32 0] t)) := by
 rw [z_arr]
 exact ⟨t, _, heap_alloc_new w _, fun j hj => by rw [Array.getElem?_replicate, if_pos hj]⟩
def f16 (b : List UInt8) (k : Nat) : Nat → UInt32 := fun j => if j < k then wordB b j else 0
def f64 (b : List UInt8) (k : Nat) : Nat → UInt32 := fun j => if j < k then wS b j else 0
theorem f16_at (b : List UInt8) (k : Nat) : f16 b (k + 1) k = wordB b k := if_pos (by omega)
theorem f16_step (b : List UInt8) {k j : Nat} (h : j ≠ k) : f16 b (k + 1) j = f16 b k j := by
 unfold f16
 by_cases hjk : j < k
 ·rw [if_pos hjk, if_pos (by omega)]
 ·rw [if_neg hjk, if_neg (by omega)]
theorem f64_at (b : List UInt8) (k : Nat) : f64 b (k + 1) k = wS b k := if_pos (by omega)
theorem f64_lt (b : List UInt8) {k j : Nat} (h : j < k) : f64 b k j = wS b j := if_pos h
theorem f64_step (b : List UInt8) {k j : Nat} (h : j ≠ k) : f64 b (k + 1) j = f64 b k j := by
 unfold f64
 by_cases hjk : j < k
 ·rw [if_pos hjk, if_pos (by omega)]
 ·rw [if_neg hjk, if_neg (by omega)]
theorem f16_f64 (b : List UInt8) : f16 b 16 = f64 b 16 := funext fun j => by
 unfold f16 f64
 by_cases h : j < 16
 ·rw [if_pos h, if_pos h, wS_low h]
 ·rw [if_neg h, if_neg h]
theorem A64.at_ {g k j : Nat} {b : List UInt8} {W : World} (h : A64 g (f64 b k) W) (hj : j < k) (hk : k ≤ 64) : W.cell? ⟨g, j, none⟩ = some (.int .u32 (W32 (wS b j))) := by
 rw [h.cell (by omega), f64_lt b hj]
theorem S8.cells {s : S8} {w : World} {S : Nat → Prop} {A : Option Addr} {n c : Nat} (h : Sl RW 1 w S s.list [.slice A n c]) :
    ∃ b o, A = some ⟨b, o, none⟩ ∧ S b ∧ n = 8 ∧ w.cell? ⟨b, o, none⟩ = some (.int .u32 (W32 s.a)) ∧ w.cell? ⟨b, o + 1, none⟩ = some (.int .u32 (W32 s.b)) ∧ w.cell? ⟨b, o + 2, none⟩ = some (.int .u32 (W32 s.c)) ∧ w.cell? ⟨b, o + 3, none⟩ = some (.int .u32 (W32 s.d)) ∧
      w.cell? ⟨b, o + 4, none⟩ = some (.int .u32 (W32 s.e)) ∧ w.cell? ⟨b, o + 5, none⟩ = some (.int .u32 (W32 s.f)) ∧ w.cell? ⟨b, o + 6, none⟩ = some (.int .u32 (W32 s.g)) ∧ w.cell? ⟨b, o + 7, none⟩ = some (.int .u32 (W32 s.h)) := by
  obtain ⟨hn, _, _⟩ := h.len_
  have hl : s.list.length = 8 := rfl
  obtain ⟨b, o, xs, hA, hS, _, _⟩ := h.at_ (i := 0) (by rw [hl]; omega)
  have hc : ∀ (i : Nat) (hi : i < 8), w.cell? ⟨b, o + i, none⟩ = some (.int .u32 (W32 (s.list[i]'(by rw [hl]; exact hi)))) := fun i hi => by
    obtain ⟨b', o', xs', hA', _, hr, hcell⟩ := h.at_ (i := i) (by rw [hl]; exact hi)
    rw [hA] at hA'
    cases hA'
    have hr' : xs' = wC _ := hr
    subst hr'
    have := hcell 0 _ rfl
    rw [Nat.mul_one, Nat.add_zero] at this
    exact this
  exact ⟨b, o, hA, hS, by rw [hn, hl], hc 0 (by omega), hc 1 (by omega), hc 2 (by omega), hc 3 (by omega), hc 4 (by omega), hc 5 (by omega), hc 6 (by omega), hc 7 (by omega)⟩
structure RSt (w : World) (gK gW : Nat) (f : Nat → UInt32) (W : World) : Prop where
 below : Below w.heap.size w W
 k : KC gK W
 a : A64 gW f W
 hK : w.heap.size ≤ gK
 hW : gK < gW
theorem RSt.store {w : World} {gK gW : Nat} {f f' : Nat → UInt32} {W : World} (h : RSt w gK gW f W) {i : Nat} {v : UInt32} (hi : f' i = v) (hf : ∀ j, j < 64 → j ≠ i → f' j = f j) : RSt w gK gW f' (W.setCell ⟨gW, i, none⟩ (.int .u32 (W32 v))) :=
 ⟨h.below.setCell (p := ⟨gW, i, none⟩) (by have := h.hK; have := h.hW; show _ ≤ gW; omega) _, h.k.set (by have := h.hW; omega), h.a.store hi hf, h.hK, h.hW⟩
theorem RSt.drewN {w : World} {gK gW : Nat} {f : Nat → UInt32} {W : World} (h : RSt w gK gW f W) (n : Nat) : RSt w gK gW f (W.drewN n) :=
 ⟨below_drewN h.below n, h.k, h.a, h.hK, h.hW⟩
theorem RSt.drew {w : World} {gK gW : Nat} {f : Nat → UInt32} {W : World} (h : RSt w gK gW f W) : RSt w gK gW f W.drew :=
 ⟨⟨h.below.os, h.below.tape, h.below.output, h.below.size, h.below.block⟩, h.k, h.a, h.hK, h.hW⟩
set_option maxRecDepth 100000 in
set_option maxHeartbeats 8000000 in
theorem rround_any (s : S8) (A : Option Addr) (n c : Nat) (b : ByteArray) (hb : b.size = 64) (w : World) (h : Sl RW 1 w (Lt w.heap.size) s.list [.slice A n c]) :
  Calls Tryd.prog 44 #[.slice A n c, .string b] w fun e w' => ∃ A' c', e = .returned (.slice A' 8 c') ∧ Sl RW 1 w' (Lt w'.heap.size) (blockS b.data.toList s).list [.slice A' 8 c'] ∧ Below w.heap.size w w' := by
 have HS := hide h
 clear h
 obtain ⟨W1, hW1⟩ : ∃ W, W = w.alloc (.cells #[.int .u32 1116352408, .int .u32 1899447441, .int .u32 3049323471, .int .u32 3921009573, .int .u32 961987163, .int .u32 1508970993, .int .u32 2453635748, .int .u32 2870763221, .int .u32 3624381080, .int .u32 310598401, .int .u32 607225278, .int .u32 1426881987, .int .u32 1925078388, .int .u32 2162078206, .int .u32 2614888103, .int .u32 3248222580, .int .u32 3835390401, .int .u32 4022224774, .int .u32 264347078, .int .u32 604807628, .int .u32 770255983, .int .u32 1249150122, .int .u32 1555081692, .int .u32 1996064986, .int .u32 2554220882, .int .u32 2821834349, .int .u32 2952996808, .int .u32 3210313671, .int .u32 3336571891, .int .u32 3584528711, .int .u32 113926993, .int .u32 338241895, .int .u32 666307205, .int .u32 773529912, .int .u32 1294757372, .int .u32 1396182291, .int .u32 1695183700, .int .u32 1986661051, .int .u32 2177026350, .int .u32 2456956037, .int .u32 2730485921, .int .u32 2820302411, .int .u32 3259730800, .int .u32 3345764771, .int .u32 3516065817, .int .u32 3600352804, .int .u32 4094571909, .int .u32 275423344, .int .u32 430227734, .int .u32 506948616, .int .u32 659060556, .int .u32 883997877, .int .u32 958139571, .int .u32 1322822218, .int .u32 1537002063, .int .u32 1747873779, .int .u32 1955562222, .int .u32 2024104815, .int .u32 2227730452, .int .u32 2361852424, .int .u32 2428436474, .int .u32 2756734187, .int .u32 3204031479, .int .u32 3329325298] 74) := ⟨_, rfl⟩
 obtain ⟨W0, hW0⟩ : ∃ W, W = W1.alloc (.cells #[.int .u32 0, .int .u32 0, .int .u32 0, .int .u32 0, .int .u32 0, .int .u32 0, .int .u32 0, .int .u32 0, .int .u32 0, .int .u32 0, .int .u32 0, .int .u32 0, .int .u32 0, .int .u32 0, .int .u32 0, .int .u32 0, .int .u32 0, .int .u32 0, .int .u32 0, .int .u32 0, .int .u32 0, .int .u32 0, .int .u32 0, .int .u32 0, .int .u32 0, .int .u32 0, .int .u32 0, .int .u32 0, .int .u32 0, .int .u32 0, .int .u32 0, .int .u32 0, .int .u32 0, .int .u32 0, .int .u32 0, .int .u32 0, .int .u32 0, .int .u32 0, .int .u32 0, .int .u32 0, .int .u32 0, .int .u32 0, .int .u32 0, .int .u32 0, .int .u32 0, .int .u32 0, .int .u32 0, .int .u32 0, .int .u32 0, .int .u32 0, .int .u32 0, .int .u32 0, .int .u32 0, .int .u32 0, .int .u32 0, .int .u32 0, .int .u32 0, .int .u32 0, .int .u32 0, .int .u32 0, .int .u32 0, .int .u32 0, .int .u32 0, .int .u32 0] 91) := ⟨_, rfl⟩
 have hz1 : W1.heap.size = w.heap.size + 1 := by rw [hW1]; simp
 have hb1 : Below w.heap.size w W1 := by rw [hW1]; exact (Below.refl _ _).alloc (Nat.le_refl _) _
 have hb01 : Below W1.heap.size W1 W0 := by rw [hW0]; exact (Below.refl _ _).alloc (Nat.le_refl _) _
 have hst : RSt w w.heap.size (w.heap.size + 1) (f16 b.data.toList 0) W0 := ⟨hb1.trans (hb01.mono hb1.size), KC.below (W := W1) (by rw [hW1]; exact k_new w _) (by omega) hb01, by
  rw [hW0, ← hz1]
  exact z_new W1 _, Nat.le_refl _, by omega⟩
 have HST := hide hst
 clear hst hb1 hb01
 go_enter Tryd.func44, Tryd.ntmps44
 go_upto_region 4 with fail
 rw [← hW1]
 rw [← hW0]
 clear hW1 hW0 hz1
 obtain ⟨gK, hgK⟩ : ∃ g, w.heap.size = g := ⟨_, rfl⟩
 obtain ⟨gW, hgW⟩ : ∃ g, gK + 1 = g := ⟨_, rfl⟩
 have HST0 := hide (show RSt w gK gW (f16 b.data.toList 0) W0 by rw [← hgW, ← hgK]; exact HST.out)
 rw [hgK, hgW]
 clear HST
 have HGK := hide hgK
 have HGW := hide hgW
 have HBS := hide hb
 clear hgK hgW hb
 go_loopw [7] (fun i wr => ∃ k : Nat, k ≤ 16 ∧ i = .int .i64 k ∧ RSt w gK gW (f16 b.data.toList k) wr) (fun i _ => 16 - (intOf i).toNat)
 case atStart => exact ⟨0, by omega, rfl, HST0.out⟩
 case round =>
  obtain ⟨k, hk, rfl, hst⟩ := hrel
  have HST := hide hst
  have ha := hst.a
  clear hst
  by_cases hlt : k < 16
  ·have hbs := HBS.out
   obtain ⟨n0, hn0⟩ : ∃ n0, n0 = 4 * k := ⟨_, rfl⟩
   obtain ⟨n1, hn1⟩ : ∃ n1, n1 = 4 * k + 1 := ⟨_, rfl⟩
   obtain ⟨n2, hn2⟩ : ∃ n2, n2 = 4 * k + 2 := ⟨_, rfl⟩
   obtain ⟨n3, hn3⟩ : ∃ n3, n3 = 4 * k + 3 := ⟨_, rfl⟩
   have l0 : n0 < b.size := by omega
   have l1 : n1 < b.size := by omega
   have l2 : n2 < b.size := by omega
   have l3 : n3 < b.size := by omega
   have i0 : (4 : Int) * (k : Int) = (n0 : Int) := by omega
   have i1 : (n0 : Int) + 1 = (n1 : Int) := by omega
   have i2 : (n0 : Int) + 2 = (n2 : Int) := by omega
   have i3 : (n0 : Int) + 3 = (n3 : Int) := by omega
   obtain ⟨c0, hc0⟩ : ∃ c, b[n0] = c := ⟨_, rfl⟩
   obtain ⟨c1, hc1⟩ : ∃ c, b[n1] = c := ⟨_, rfl⟩
   obtain ⟨c2, hc2⟩ : ∃ c, b[n2] = c := ⟨_, rfl⟩
   obtain ⟨c3, hc3⟩ : ∃ c, b[n3] = c := ⟨_, rfl⟩
   have hcell := ha.cell (show k < 64 by omega)
   have hfr := ha.frozen k
   have HV := hide (show wordB b.data.toList k = c0.toUInt32 <<< 24 ||| c1.toUInt32 <<< 16 ||| c2.toUInt32 <<< 8 ||| c3.toUInt32 by
    rw [wordB, ← hn3, ← hn2, ← hn1, ← hn0, getD_byte b n0 l0, getD_byte b n1 l1, getD_byte b n2 l2, getD_byte b n3 l3, hc0, hc1, hc2, hc3])
   clear ha hbs hn0 hn1 hn2 hn3
   go_wp2_with fail
   go_region
   all_goals
    clear hcell hfr l0 l1 l2 l3 i0 i1 i2 i3 hc0 hc1 hc2 hc3
    go_wp2_with fail
    go_roundw
    case rel =>
     refine ⟨k + 1, by omega, by go_num, ?_⟩
     simp only [wsl24, wsl16, wsl8, w_byte_mod, w_or]
     exact (HST.out.store (f' := f16 b.data.toList (k + 1)) ((f16_at _ _).trans HV.out) (fun j _ hne => f16_step _ hne)).drew
    case measure => simp [intOf]; omega
  ·have hk16 : k = 16 := by omega
   have HST1 := hide (show RSt w gK gW (f64 b.data.toList 16) wr by rw [← f16_f64, ← hk16]; exact HST.out)
   clear ha hk16
   obtain ⟨wy, hwy⟩ : ∃ W, W = wr := ⟨_, rfl⟩
   go_wp2_with fail
   go_loopw [8] (fun i wr => ∃ k : Nat, 16 ≤ k ∧ k ≤ 64 ∧ i = .int .i64 k ∧ RSt w gK gW (f64 b.data.toList k) wr) (fun i _ => 64 - (intOf i).toNat)
   case atStart => exact ⟨16, by omega, by omega, rfl, HST1.out⟩
   case round =>
    obtain ⟨k, hk16, hk, rfl, hst⟩ := hrel
    have HST2 := hide hst
    have ha := hst.a
    clear hst
    by_cases hlt2 : k < 64
    ·obtain ⟨q15, hq15⟩ : ∃ q, q = k - 15 := ⟨_, rfl⟩
     obtain ⟨q2, hq2⟩ : ∃ q, q = k - 2 := ⟨_, rfl⟩
     obtain ⟨q16, hq16⟩ : ∃ q, q = k - 16 := ⟨_, rfl⟩
     obtain ⟨q7, hq7⟩ : ∃ q, q = k - 7 := ⟨_, rfl⟩
     have i15 : (k : Int) - 15 = (q15 : Int) := by omega
     have i2 : (k : Int) - 2 = (q2 : Int) := by omega
     have i16 : (k : Int) - 16 = (q16 : Int) := by omega
     have i7 : (k : Int) - 7 = (q7 : Int) := by omega
     have l15 : q15 < 64 := by omega
     have l2 : q2 < 64 := by omega
     have l16 : q16 < 64 := by omega
     have l7 : q7 < 64 := by omega
     obtain ⟨x15, hx15⟩ : ∃ x, wS b.data.toList q15 = x := ⟨_, rfl⟩
     obtain ⟨x2, hx2⟩ : ∃ x, wS b.data.toList q2 = x := ⟨_, rfl⟩
     obtain ⟨x16, hx16⟩ : ∃ x, wS b.data.toList q16 = x := ⟨_, rfl⟩
     obtain ⟨x7, hx7⟩ : ∃ x, wS b.data.toList q7 = x := ⟨_, rfl⟩
     have hv := wS_high (b := b.data.toList) hk16
     rw [← hq15, ← hq2, ← hq16, ← hq7, hx15, hx2, hx16, hx7, sg0, sg1] at hv
     have HV := hide hv
     clear hv
     have e15 := ha.at_ (show q15 < k by omega) hk
     have e2 := ha.at_ (show q2 < k by omega) hk
     have HE := hide (show ∀ W, RSt w gK gW (f64 b.data.toList k) W → W.cell? ⟨gW, q16, none⟩ = some (.int .u32 (W32 x16)) ∧ W.cell? ⟨gW, q7, none⟩ = some (.int .u32 (W32 x7)) from fun W hW => ⟨hx16 ▸ hW.a.at_ (by omega) hk, hx7 ▸ hW.a.at_ (by omega) hk⟩)
     rw [hx15] at e15
     rw [hx2] at e2
     clear ha hq15 hq2 hq16 hq7 hx15 hx2 hx16 hx7
     go_wp2_with fail
     go_region
     all_goals
      have HST3 := hide (HST2.out.drew)
      obtain ⟨w1, hw1⟩ : ∃ W, W = wr.drew := ⟨_, rfl⟩
      rw [← hw1] at HST3 ⊢
      clear hw1 e15 e2
      obtain ⟨e16, e7⟩ := HE.out _ HST3.out
      have hcell := HST3.out.a.cell (show k < 64 by omega)
      have hfr := HST3.out.a.frozen k
      go_wp2_with fail
      go_region
      all_goals
       clear e16 e7 hcell hfr i15 i2 i16 i7 l15 l2 l16 l7
       go_wp2_with fail
       go_roundw
       case rel =>
        refine ⟨k + 1, by omega, by omega, by go_num, ?_⟩
        simp only [wsr7, wsl25, wsr18, wsl14, wsr3, wsr17, wsl15, wsr19, wsl13, wsr10, w_or, w_xor, w_add4]
        exact (HST3.out.store (f' := f64 b.data.toList (k + 1)) ((f64_at _ _).trans HV.out) (fun j _ hne => f64_step _ hne)).drew
       case measure => simp [intOf]; omega
    ·have hk64 : k = 64 := by omega
     have HST4 := hide (show RSt w gK gW (f64 b.data.toList 64) wr by rw [← hk64]; exact HST2.out)
     clear ha hk64
     obtain ⟨bh, oh, rfl, hbh, rfl, -⟩ := S8.cells HS.out
     have HH := hide (fun W (hb : Below w.heap.size w W) => (S8.cells ((Sl.ok RW.ok).mono HS.out (fun j hj => hb.block j hj) (fun _ hj => hj))))
     obtain ⟨b9, o9, e9, -, -, h0, h1, h2, h3, h4, h5, h6, h7⟩ := HH.out wr HST4.out.below
     cases e9
     go_wp2_with fail
     go_quiet (fail)
     have HST5 := hide (HST4.out.drewN nq)
     obtain ⟨w3, hw3⟩ : ∃ W, W = wr.drewN nq := ⟨_, rfl⟩
     rw [← hw3] at HST5 ⊢
     clear hw3 h0 h1 h2 h3 h4 h5 h6 h7
     go_wp2_with fail
     go_loopw [13, 14, 15, 16, 17, 18, 19, 20, 21] (fun a1 a2 a3 a4 a5 a6 a7 a8 i wr => ∃ (k : Nat) (t : S8), k ≤ 64 ∧ i = .int .i64 k ∧ runS b.data.toList s k = t ∧ a1 = .int .u32 (W32 t.a) ∧ a2 = .int .u32 (W32 t.b) ∧ a3 = .int .u32 (W32 t.c) ∧ a4 = .int .u32 (W32 t.d) ∧ a5 = .int .u32 (W32 t.e) ∧ a6 = .int .u32 (W32 t.f) ∧ a7 = .int .u32 (W32 t.g) ∧ a8 = .int .u32 (W32 t.h) ∧ RSt w gK gW (f64 b.data.toList 64) wr) (fun _ _ _ _ _ _ _ _ i _ => 64 - (intOf i).toNat)
     case atStart => exact ⟨0, s, by omega, rfl, rfl, rfl, rfl, rfl, rfl, rfl, rfl, rfl, rfl, HST5.out⟩
     case round =>
      obtain ⟨k3, t, hk3, rfl, hrun, rfl, rfl, rfl, rfl, rfl, rfl, rfl, rfl, hst⟩ := hrel
      have HST6 := hide hst
      have HRUN := hide hrun
      clear hrun
      by_cases hlt3 : k3 < 64
      ·have hkc := hst.k k3 hlt3
       have hwc := hst.a.at_ hlt3 (Nat.le_refl _)
       obtain ⟨kk, hkk⟩ : ∃ kk, kS k3 = kk := ⟨_, rfl⟩
       obtain ⟨ww, hww⟩ : ∃ ww, wS b.data.toList k3 = ww := ⟨_, rfl⟩
       have HN := hide (show runS b.data.toList s (k3 + 1) = stepS kk ww t by rw [runS, hkk, hww, HRUN.out])
       rw [hkk] at hkc
       rw [hww] at hwc
       obtain ⟨ta, tb, tc, td, te, tf, tg, th⟩ := t
       simp only at *
       clear hst hkk hww
       go_wp2_with fail
       go_quiet (fail)
       clear hkc hwc
       go_wp2_with fail
       go_roundw
       case rel =>
        refine ⟨k3 + 1, _, by omega, by go_num, HN.out, ?_, rfl, rfl, rfl, ?_, rfl, rfl, rfl, HST6.out.drewN _⟩
        all_goals
         simp only [w_not, wsr6, wsl26, wsr11, wsl21, wsr25, wsl7, wsr2, wsl30, wsr13, wsl19, wsr22, wsl10, w_or, w_xor, w_and, w_add5, w_add]
         rfl
       case measure => simp [intOf]; omega
      ·have hk64b : k3 = 64 := by omega
       have HRF := hide (show runS b.data.toList s 64 = t by rw [← hk64b]; exact HRUN.out)
       obtain ⟨ta, tb, tc, td, te, tf, tg, th⟩ := t
       simp only at *
       obtain ⟨b9, o9, e9, -, -, h0, h1, h2, h3, h4, h5, h6, h7⟩ := HH.out wr HST6.out.below
       cases e9
       clear hst hk64b
       go_wp2_with fail
       go_still_tail 40, (by kernel_rfl)
       change wpList _ _ _ _ _ wr.drew
       obtain ⟨w5, hw5⟩ : ∃ W, W = wr.drew := ⟨_, rfl⟩
       have HST7 := hide (show RSt w gK gW (f64 b.data.toList 64) w5 by rw [hw5]; exact HST6.out.drew)
       rw [← hw5]
       clear hw5 h0 h1 h2 h3 h4 h5 h6 h7
       have HBLK := hide (show (blockS b.data.toList s).list = [s.a + ta, s.b + tb, s.c + tc, s.d + td, s.e + te, s.f + tf, s.g + tg, s.h + th] by rw [blockS, HRF.out]; rfl)
       go_wp2_with fail
       go_ret
       refine ⟨some ⟨w5.heap.size, 0, none⟩, 8, rfl, ?_, HST7.out.below.alloc HST7.out.below.size _⟩
       rw [HBLK.out]
       simp only [w_add]
       exact sl_pu (f := wC) (size := 1) (fun _ => rfl) w5 _ _ [s.a + ta, s.b + tb, s.c + tc, s.d + td, s.e + te, s.f + tf, s.g + tg, s.h + th] rfl (by simp [maxLen])
end Go.Proofs.YtmgnihmjjijdoaaDoor
