/- SHA-256: words as integers, laws for the walk; the definition. -/
import Derived.Test.YtmgnihmjjijdoaaDoorKGTlvJ
import Derived.Laws.BitsAllLaws
namespace Go.Proofs.YtmgnihmjjijdoaaDoor
open Go.RowKit
def W32 (x : UInt32) : Int := (x.toNat : Int)
theorem w_lt (x : UInt32) : x.toNat < 4294967296 := x.toNat_lt
theorem w_or (a b : UInt32) : bits .or .u32 (W32 a) (W32 b) = W32 (a ||| b) := by
 unfold W32; rw [u32_or_nat _ _ (w_lt a) (w_lt b), UInt32.toNat_or]
theorem w_and (a b : UInt32) : bits .and .u32 (W32 a) (W32 b) = W32 (a &&& b) := by
 unfold W32; rw [u32_and_nat _ _ (w_lt a) (w_lt b), UInt32.toNat_and]
theorem w_xor (a b : UInt32) : bits .xor .u32 (W32 a) (W32 b) = W32 (a ^^^ b) := by
 unfold W32; rw [u32_xor_nat _ _ (w_lt a) (w_lt b), UInt32.toNat_xor]
theorem w_add (a b : UInt32) : (W32 a + W32 b) % (4294967296 : Int) = W32 (a + b) := by
 unfold W32; rw [UInt32.toNat_add]; omega
theorem w_add3 (a b c : UInt32) : (W32 a + W32 b + W32 c) % (4294967296 : Int) = W32 (a + b + c) := by
 rw [← w_add, ← w_add]; omega
theorem w_add4 (a b c d : UInt32) : (W32 a + W32 b + W32 c + W32 d) % (4294967296 : Int) = W32 (a + b + c + d) := by
 rw [← w_add, ← w_add3]; omega
theorem w_add5 (a b c d e : UInt32) : (W32 a + W32 b + W32 c + W32 d + W32 e) % (4294967296 : Int) = W32 (a + b + c + d + e) := by
 rw [← w_add, ← w_add4]; omega
theorem w_shr (x : UInt32) (k : Nat) (hk : k < 32) : W32 x / ((2 ^ k : Nat) : Int) = W32 (x >>> UInt32.ofNat k) := by
 unfold W32
 rw [UInt32.toNat_shiftRight, UInt32.toNat_ofNat', Nat.mod_eq_of_lt (show k < 2 ^ 32 by omega), Nat.mod_eq_of_lt (show k < 32 by omega), Nat.shiftRight_eq_div_pow]
 exact (Int.natCast_ediv _ _).symm
theorem w_shl (x : UInt32) (k : Nat) (hk : k < 32) : W32 x * ((2 ^ k : Nat) : Int) % (4294967296 : Int) = W32 (x <<< UInt32.ofNat k) := by
 unfold W32
 rw [UInt32.toNat_shiftLeft, UInt32.toNat_ofNat', Nat.mod_eq_of_lt (show k < 2 ^ 32 by omega), Nat.mod_eq_of_lt (show k < 32 by omega), Nat.shiftLeft_eq]
 omega
theorem w_byte (c : UInt8) : (c.toNat : Int) = W32 c.toUInt32 := by unfold W32; simp
theorem w_byte_mod (c : UInt8) : (c.toNat : Int) % (4294967296 : Int) = W32 c.toUInt32 := by rw [← w_byte]; have := c.toNat_lt; omega
theorem w_not (e : UInt32) : bits .xor .u32 (if IntKind.u32.signed = true then -1 else IntKind.u32.max) (W32 e) = W32 (~~~e) := by
 have h : (if IntKind.u32.signed = true then (-1 : Int) else IntKind.u32.max) = W32 4294967295 := rfl
 rw [h, w_xor]
 congr 1
theorem wsr7 (x : UInt32) : W32 x / (128 : Int) = W32 (x >>> 7) := w_shr x 7 (by omega)
theorem wsr18 (x : UInt32) : W32 x / (262144 : Int) = W32 (x >>> 18) := w_shr x 18 (by omega)
theorem wsr3 (x : UInt32) : W32 x / (8 : Int) = W32 (x >>> 3) := w_shr x 3 (by omega)
theorem wsr17 (x : UInt32) : W32 x / (131072 : Int) = W32 (x >>> 17) := w_shr x 17 (by omega)
theorem wsr19 (x : UInt32) : W32 x / (524288 : Int) = W32 (x >>> 19) := w_shr x 19 (by omega)
theorem wsr10 (x : UInt32) : W32 x / (1024 : Int) = W32 (x >>> 10) := w_shr x 10 (by omega)
theorem wsr6 (x : UInt32) : W32 x / (64 : Int) = W32 (x >>> 6) := w_shr x 6 (by omega)
theorem wsr11 (x : UInt32) : W32 x / (2048 : Int) = W32 (x >>> 11) := w_shr x 11 (by omega)
theorem wsr25 (x : UInt32) : W32 x / (33554432 : Int) = W32 (x >>> 25) := w_shr x 25 (by omega)
theorem wsr2 (x : UInt32) : W32 x / (4 : Int) = W32 (x >>> 2) := w_shr x 2 (by omega)
theorem wsr13 (x : UInt32) : W32 x / (8192 : Int) = W32 (x >>> 13) := w_shr x 13 (by omega)
theorem wsr22 (x : UInt32) : W32 x / (4194304 : Int) = W32 (x >>> 22) := w_shr x 22 (by omega)
theorem wsl25 (x : UInt32) : W32 x * (33554432 : Int) % (4294967296 : Int) = W32 (x <<< 25) := w_shl x 25 (by omega)
theorem wsl14 (x : UInt32) : W32 x * (16384 : Int) % (4294967296 : Int) = W32 (x <<< 14) := w_shl x 14 (by omega)
theorem wsl15 (x : UInt32) : W32 x * (32768 : Int) % (4294967296 : Int) = W32 (x <<< 15) := w_shl x 15 (by omega)
theorem wsl13 (x : UInt32) : W32 x * (8192 : Int) % (4294967296 : Int) = W32 (x <<< 13) := w_shl x 13 (by omega)
theorem wsl26 (x : UInt32) : W32 x * (67108864 : Int) % (4294967296 : Int) = W32 (x <<< 26) := w_shl x 26 (by omega)
theorem wsl21 (x : UInt32) : W32 x * (2097152 : Int) % (4294967296 : Int) = W32 (x <<< 21) := w_shl x 21 (by omega)
theorem wsl7 (x : UInt32) : W32 x * (128 : Int) % (4294967296 : Int) = W32 (x <<< 7) := w_shl x 7 (by omega)
theorem wsl30 (x : UInt32) : W32 x * (1073741824 : Int) % (4294967296 : Int) = W32 (x <<< 30) := w_shl x 30 (by omega)
theorem wsl19 (x : UInt32) : W32 x * (524288 : Int) % (4294967296 : Int) = W32 (x <<< 19) := w_shl x 19 (by omega)
theorem wsl10 (x : UInt32) : W32 x * (1024 : Int) % (4294967296 : Int) = W32 (x <<< 10) := w_shl x 10 (by omega)
theorem wsl24 (x : UInt32) : W32 x * (16777216 : Int) % (4294967296 : Int) = W32 (x <<< 24) := w_shl x 24 (by omega)
theorem wsl16 (x : UInt32) : W32 x * (65536 : Int) % (4294967296 : Int) = W32 (x <<< 16) := w_shl x 16 (by omega)
theorem wsl8 (x : UInt32) : W32 x * (256 : Int) % (4294967296 : Int) = W32 (x <<< 8) := w_shl x 8 (by omega)
theorem wsr24 (x : UInt32) : W32 x / (16777216 : Int) = W32 (x >>> 24) := w_shr x 24 (by omega)
theorem wsr16 (x : UInt32) : W32 x / (65536 : Int) = W32 (x >>> 16) := w_shr x 16 (by omega)
theorem wsr8 (x : UInt32) : W32 x / (256 : Int) = W32 (x >>> 8) := w_shr x 8 (by omega)
def sg0 (x : UInt32) : UInt32 := (x >>> 7 ||| x <<< 25) ^^^ (x >>> 18 ||| x <<< 14) ^^^ x >>> 3
def sg1 (x : UInt32) : UInt32 := (x >>> 17 ||| x <<< 15) ^^^ (x >>> 19 ||| x <<< 13) ^^^ x >>> 10
def big1 (e : UInt32) : UInt32 := (e >>> 6 ||| e <<< 26) ^^^ (e >>> 11 ||| e <<< 21) ^^^ (e >>> 25 ||| e <<< 7)
def big0 (a : UInt32) : UInt32 := (a >>> 2 ||| a <<< 30) ^^^ (a >>> 13 ||| a <<< 19) ^^^ (a >>> 22 ||| a <<< 10)
def wordB (b : List UInt8) (i : Nat) : UInt32 := (b.getD (4 * i) 0).toUInt32 <<< 24 ||| (b.getD (4 * i + 1) 0).toUInt32 <<< 16 ||| (b.getD (4 * i + 2) 0).toUInt32 <<< 8 ||| (b.getD (4 * i + 3) 0).toUInt32
def wS (b : List UInt8) (j : Nat) : UInt32 := if j < 16 then wordB b j else wS b (j - 16) + sg0 (wS b (j - 15)) + wS b (j - 7) + sg1 (wS b (j - 2))
structure S8 where
 a : UInt32
 b : UInt32
 c : UInt32
 d : UInt32
 e : UInt32
 f : UInt32
 g : UInt32
 h : UInt32
def S8.list (s : S8) : List UInt32 := [s.a, s.b, s.c, s.d, s.e, s.f, s.g, s.h]
def tS (k w : UInt32) (s : S8) : UInt32 := s.h + big1 s.e + (s.e &&& s.f ^^^ ~~~s.e &&& s.g) + k + w
def vS (s : S8) : UInt32 := big0 s.a + (s.a &&& s.b ^^^ s.a &&& s.c ^^^ s.b &&& s.c)
def stepS (k w : UInt32) (s : S8) : S8 := ⟨tS k w s + vS s, s.a, s.b, s.c, s.d + tS k w s, s.e, s.f, s.g⟩
def kL : List UInt32 := [1116352408, 1899447441, 3049323471, 3921009573, 961987163, 1508970993, 2453635748, 2870763221, 3624381080, 310598401, 607225278, 1426881987, 1925078388, 2162078206, 2614888103, 3248222580, 3835390401, 4022224774, 264347078, 604807628, 770255983, 1249150122, 1555081692, 1996064986, 2554220882, 2821834349, 2952996808, 3210313671, 3336571891, 3584528711, 113926993, 338241895, 666307205, 773529912, 1294757372, 1396182291, 1695183700, 1986661051, 2177026350, 2456956037, 2730485921, 2820302411, 3259730800, 3345764771, 3516065817, 3600352804, 4094571909, 275423344, 430227734, 506948616, 659060556, 883997877, 958139571, 1322822218, 1537002063, 1747873779, 1955562222, 2024104815, 2227730452, 2361852424, 2428436474, 2756734187, 3204031479, 3329325298]
def kS (n : Nat) : UInt32 := kL.getD n 0
def runS (b : List UInt8) (s : S8) : Nat → S8
 | 0 => s
 | n + 1 => stepS (kS n) (wS b n) (runS b s n)
def blockS (b : List UInt8) (s : S8) : S8 :=
 ⟨s.a + (runS b s 64).a, s.b + (runS b s 64).b, s.c + (runS b s 64).c, s.d + (runS b s 64).d, s.e + (runS b s 64).e, s.f + (runS b s 64).f, s.g + (runS b s 64).g, s.h + (runS b s 64).h⟩
theorem getD_byte (b : ByteArray) (n : Nat) (h : n < b.size) : b.data.toList.getD n 0 = b[n] := by
 rw [List.getD, List.getElem?_eq_getElem (by rw [size_string]; exact h)]; rfl
theorem wS_low {b : List UInt8} {j : Nat} (h : j < 16) : wS b j = wordB b j := by rw [wS, if_pos h]
theorem wS_high {b : List UInt8} {j : Nat} (h : 16 ≤ j) : wS b j = wS b (j - 16) + sg0 (wS b (j - 15)) + wS b (j - 7) + sg1 (wS b (j - 2)) := by rw [wS, if_neg (by omega)]
def initS : S8 := ⟨1779033703, 3144134277, 1013904242, 2773480762, 1359893119, 2600822924, 528734635, 1541459225⟩
def wC (x : UInt32) : List Value := [.int .u32 (W32 x)]
abbrev RW : Rep UInt32 := Pu wC
theorem RW.ok : RepOk RW 1 := Pu.ok (fun _ => rfl) (fun x u hu => by
 simp only [wC, List.mem_cons, List.not_mem_nil, or_false] at hu
 rcases hu with rfl; rfl)
def A64 (g : Nat) (f : Nat → UInt32) (W : World) : Prop := ∃ (T : TypeId) (C : Array Value), W.heap[g]? = some (.cells C T (0, 0)) ∧ ∀ j, j < 64 → C[j]? = some (.int .u32 (W32 (f j)))
theorem A64.cell {g : Nat} {f : Nat → UInt32} {W : World} (h : A64 g f W) {j : Nat} (hj : j < 64) : W.cell? ⟨g, j, none⟩ = some (.int .u32 (W32 (f j))) := by
 obtain ⟨T, C, h1, h2⟩ := h
 simp [World.cell?, h1, h2 j hj]
theorem A64.frozen {g : Nat} {f : Nat → UInt32} {W : World} (h : A64 g f W) (j : Nat) : W.frozen? ⟨g, j, none⟩ = false := by
 obtain ⟨T, C, h1, h2⟩ := h
 simp [World.frozen?, h1]
theorem A64.lt {g : Nat} {f : Nat → UInt32} {W : World} (h : A64 g f W) : g < W.heap.size := by
 obtain ⟨T, C, h1, h2⟩ := h
 exact (Array.getElem?_eq_some_iff.1 h1).1
theorem A64.keep {g : Nat} {f : Nat → UInt32} {W W' : World} (h : A64 g f W) (he : W'.heap[g]? = W.heap[g]?) : A64 g f W' := by
 obtain ⟨T, C, h1, h2⟩ := h
 exact ⟨T, C, he.trans h1, h2⟩
theorem A64.below {g : Nat} {f : Nat → UInt32} {W W' : World} (h : A64 g f W) (hb : Below W.heap.size W W') : A64 g f W' := h.keep (hb.block g h.lt)
theorem A64.store {g : Nat} {f f' : Nat → UInt32} {W : World} (h : A64 g f W) {i : Nat} {v : UInt32} (hi : f' i = v) (hf : ∀ j, j < 64 → j ≠ i → f' j = f j) : A64 g f' (W.setCell ⟨g, i, none⟩ (.int .u32 (W32 v))) := by
 obtain ⟨T, C, h1, h2⟩ := h
 refine ⟨T, C.setIfInBounds i (.int .u32 (W32 v)), by simp [World.setCell, Array.getElem?_modify, h1], fun j hj => ?_⟩
 rw [Array.getElem?_setIfInBounds]
 have hjs : j < C.size := (Array.getElem?_eq_some_iff.1 (h2 j hj)).1
 by_cases e : i = j
 ·subst e
  rw [if_pos rfl, if_pos hjs, hi]
 ·rw [if_neg e, hf j hj (fun e' => e e'.symm), h2 j hj]
end Go.Proofs.YtmgnihmjjijdoaaDoor
