/- The reference's DecodeKey. -/
import Derived.Test.YtbafpgdmnkkclaaDoorKeyG
namespace Go.Proofs.YtbafpgdmnkkclaaDoor
open Go.RowKit

/-- a variable that holds a key -/
def KX (g : Nat) (h : Int) (i r : ByteArray) (W : World) : Prop := W.heap[g]? = some (.cells #[.int .i64 h, .string i, .string r] 30 (0, 0))
theorem KX.facts {g : Nat} {h : Int} {i r : ByteArray} {W : World} (k : KX g h i r W) : W.cell? ⟨g, 0, none⟩ = some (.int .i64 h) ∧ W.cell? ⟨g, 1, none⟩ = some (.string i) ∧ W.cell? ⟨g, 2, none⟩ = some (.string r) ∧
    W.frozen? ⟨g, 0, none⟩ = false ∧ W.frozen? ⟨g, 1, none⟩ = false ∧ W.frozen? ⟨g, 2, none⟩ = false := by
  unfold KX at k
  simp [World.cell?, World.frozen?, k]
theorem KX.lt {g : Nat} {h : Int} {i r : ByteArray} {W : World} (k : KX g h i r W) : g < W.heap.size := (Array.getElem?_eq_some_iff.1 k).1
theorem KX.below {g : Nat} {h : Int} {i r : ByteArray} {W W' : World} (k : KX g h i r W) (hb : Below W.heap.size W W') : KX g h i r W' := (hb.block g k.lt).trans k
theorem KX.ex {g d : Nat} {h : Int} {i r : ByteArray} {W W' : World} (k : KX g h i r W) (hx : Ex d W W') (hne : g ≠ d) : KX g h i r W' := (hx.block g k.lt (fun e => hne (Option.some.inj e))).trans k
theorem KX.new (w : World) (h : Int) (i r : ByteArray) : KX w.heap.size h i r (w.alloc (.cells #[.int .i64 h, .string i, .string r] 30)) := heap_alloc_new w _
theorem KX.store {g : Nat} {h : Int} {i r : ByteArray} {W : World} (k : KX g h i r W) (a b c : Value) :
    (((W.setCell ⟨g, 0, none⟩ a).setCell ⟨g, 1, none⟩ b).setCell ⟨g, 2, none⟩ c).cell? ⟨g, 0, none⟩ = some a ∧ (((W.setCell ⟨g, 0, none⟩ a).setCell ⟨g, 1, none⟩ b).setCell ⟨g, 2, none⟩ c).cell? ⟨g, 1, none⟩ = some b ∧
    (((W.setCell ⟨g, 0, none⟩ a).setCell ⟨g, 1, none⟩ b).setCell ⟨g, 2, none⟩ c).cell? ⟨g, 2, none⟩ = some c := by
  unfold KX at k
  simp [World.cell?, World.setCell, Array.getElem?_modify, k]
def decKR : Except Int Key → Value
  | .error k => .tuple #[.agg #[.int .i64 0, .string ⟨#[]⟩, .string ⟨#[]⟩], .int .i64 k]
  | .ok k => .tuple #[.agg #[.int .i64 k.1, .string ⟨k.2.1.toArray⟩, .string ⟨k.2.2.toArray⟩], .int .i64 0]
def decKG : Except Int (List Elt) → Except Int Key
  | .error k => .error k
  | .ok l => decKl l
def decKO : Except Int Elt → Except Int Key
  | .error k => .error k
  | .ok e => if e.1 ≠ 48 then .error 5 else decKG (listF e.2.1)
theorem decK_one (b : List UInt8) : decK b = decKO (oneF b) := by
  unfold decK decKO
  cases oneF b with
  | error k => rfl
  | ok e =>
    simp only
    split
    · rfl
    · cases listF e.2.1 <;> rfl
theorem decKO_ok (t : Nat) (c raw : List UInt8) : decKO (.ok (t, c, raw)) = decKG (openF (t : Int) 48 c) := by
  show (if t ≠ 48 then Except.error 5 else decKG (listF c)) = _
  unfold openF
  by_cases h : t = 48
  · rw [if_neg (by simpa using h), if_neg (by omega)]
  · rw [if_pos h, if_pos (by omega)]; rfl
/-- the state of DecodeKey: the result and 'none' are zero, the decoder stands at rest -/
structure KSt (w : World) (g : Nat) (rest : List Elt) (W : World) : Prop where
  below : Below w.heap.size w W
  r : KX w.heap.size 0 ⟨#[]⟩ ⟨#[]⟩ W
  n : KX (w.heap.size + 1) 0 ⟨#[]⟩ ⟨#[]⟩ W
  f : FAt W g rest
  hg : w.heap.size + 2 ≤ g
theorem KSt.grow {w : World} {g : Nat} {rest : List Elt} {W W' : World} (h : KSt w g rest W) (hb : Below W.heap.size W W') : KSt w g rest W' :=
  ⟨h.below.trans (hb.mono h.below.size), h.r.below hb, h.n.below hb, h.f.below hb, h.hg⟩
theorem KSt.step {w : World} {g : Nat} {rest rest' : List Elt} {W W' : World} (h : KSt w g rest W) (hx : Ex g W W') (hf : FAt W' g rest') : KSt w g rest' W' :=
  ⟨Ex.below h.below h.below.size (by have := h.hg; omega) hx, h.r.ex hx (by have := h.hg; omega), h.n.ex hx (by have := h.hg; omega), hf, h.hg⟩
theorem two_keys (w : World) : ∃ W, W = (w.alloc (.cells #[.int .i64 0, .string ⟨#[]⟩, .string ⟨#[]⟩] 30)).alloc (.cells #[.int .i64 0, .string ⟨#[]⟩, .string ⟨#[]⟩] 30) ∧
    Below w.heap.size w W ∧ KX w.heap.size 0 ⟨#[]⟩ ⟨#[]⟩ W ∧ KX (w.heap.size + 1) 0 ⟨#[]⟩ ⟨#[]⟩ W ∧ W.heap.size = w.heap.size + 2 := by
  have z1 : (w.alloc (.cells #[.int .i64 0, .string ⟨#[]⟩, .string ⟨#[]⟩] 30)).heap.size = w.heap.size + 1 := by simp
  have h1 := KX.new (w.alloc (.cells #[.int .i64 0, .string ⟨#[]⟩, .string ⟨#[]⟩] 30)) 0 ⟨#[]⟩ ⟨#[]⟩
  rw [z1] at h1
  refine ⟨_, rfl, ((Below.refl _ _).alloc (Nat.le_refl _) _).alloc (by omega) _, (KX.new w 0 ⟨#[]⟩ ⟨#[]⟩).below ((Below.refl _ _).alloc (Nat.le_refl _) _), h1, by simp⟩


set_option maxRecDepth 100000 in
set_option maxHeartbeats 16000000 in
theorem rDecodeKey_start (s : ByteArray) (hs : s.size ≤ 1000000000) (w : World) (k : Int) (hk : oneF s.data.toList = .error k) (o : Except Int Key) (ho : o = .error k) :
    Calls Tryd.prog 14 #[.string s] w fun e w' => e = .returned (decKR o) ∧ Below w.heap.size w w' := by
  obtain ⟨W0, hW0, hb0, hr0, hn0, hz0⟩ := two_keys w
  have HK := hide hk
  have HO := hide ho
  have hk0 : k ≠ 0 := fun h => one_err0 _ (h ▸ hk)
  have ht2 : (k != 0) = true := by simpa using hk0
  clear hk hk0 ho
  go_enter Tryd.func14, Tryd.ntmps14
  go_upto_region 2 with fail
  rw [← hW0]
  clear hW0
  have hz00 : W0.heap.size ≤ w.heap.size + 2 := by omega
  have hz01 : w.heap.size + 2 ≤ W0.heap.size := by omega
  clear hz0
  go_wp2_with fail
  refine (rOne_any s hs _).mono ?_
  rintro e w1 ⟨rfl, hb1⟩
  rw [HK.out, show oneR (.error k) = .tuple #[.agg #[.int .i64 0, .string ⟨#[]⟩, .string ⟨#[]⟩], .int .i64 k] from rfl]
  have hb01 := hb0.trans (hb1.mono (by omega))
  have hbA := (Below.refl w1.heap.size w1).alloc (Nat.le_refl _) (.cells #[.int .i64 0, .string ⟨#[]⟩, .string ⟨#[]⟩] 38)
  have hbl := hb01.trans (hbA.mono hb01.size)
  have hrA := (hr0.below hb1).below hbA
  have hnA := (hn0.below hb1).below hbA
  go_upto_region 3 with fail
  obtain ⟨wA, hwA⟩ : ∃ W, W = w1.alloc (.cells #[.int .i64 0, .string ⟨#[]⟩, .string ⟨#[]⟩] 38) := ⟨_, rfl⟩
  rw [← hwA] at hbl hrA hnA ⊢
  clear hwA hbA
  obtain ⟨r0, r1, r2, f0, f1, f2⟩ := (hrA).facts
  obtain ⟨n0, n1, n2, -, -, -⟩ := (hnA).facts
  go_wp2_with fail
  obtain ⟨q0, q1, q2⟩ := (hrA).store (.int .i64 0) (.string ⟨#[]⟩) (.string ⟨#[]⟩)
  have hbz := (((hbl).setCell (p := ⟨w.heap.size, 0, none⟩) (Nat.le_refl _) (.int .i64 0)).setCell (p := ⟨w.heap.size, 1, none⟩) (Nat.le_refl _) (.string ⟨#[]⟩)).setCell (p := ⟨w.heap.size, 2, none⟩) (Nat.le_refl _) (.string ⟨#[]⟩)
  obtain ⟨W3, hW3⟩ : ∃ W3, W3 = ((wA.setCell ⟨w.heap.size, 0, none⟩ (.int .i64 0)).setCell ⟨w.heap.size, 1, none⟩ (.string ⟨#[]⟩)).setCell ⟨w.heap.size, 2, none⟩ (.string ⟨#[]⟩) := ⟨_, rfl⟩
  rw [← hW3] at q0 q1 q2 hbz ⊢
  exact bodyPost_ret (v := .tuple #[.agg #[(.int .i64 0), (.string ⟨#[]⟩), (.string ⟨#[]⟩)], .int .i64 k]) (by simp [results, Tryd.results14, go_sem, q0, q1, q2]) rfl ⟨by rw [HO.out]; rfl, hbz⟩
end Go.Proofs.YtbafpgdmnkkclaaDoor
