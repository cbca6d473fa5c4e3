/- The valid object identifiers that the laws of package oid try: id. -/
import Derived.Test.YtiikpdjjhnhiiaaDoorOidN
import Derived.Test.YtiikpdjjhnhiiaaDoorLib3
import Derived.Test.YtiikpdjjhnhiiaaDoorLibR
import Derived.Test.YtiikpdjjhnhiiaaDoorOidO
namespace Go.Proofs.YtiikpdjjhnhiiaaDoor
open Go.RowKit

def shiftA (x : Nat) : Nat := x / 2 ^ (x % 32) % 2147483648
def idA : List Nat → List Nat
  | [] => [2, 999]
  | x :: r => (x % 3) :: (x / 3 % 40) :: (r.take 7).map shiftA
def idL (l : List Int) : List Nat := idA (l.map Int.toNat)
theorem valid_id (l : List Nat) : ValidA (idA l) := by
  cases l with
  | nil => exact ⟨by decide, by decide, by decide, by decide⟩
  | cons x r =>
    refine ⟨by simp [idA], by simp [idA]; omega, ?_, ?_⟩
    · intro n hn
      simp only [idA, List.mem_cons, List.mem_map] at hn
      rcases hn with rfl | rfl | ⟨y, _, rfl⟩
      · omega
      · omega
      · unfold shiftA; omega
    · show rootB (x % 3) (x / 3 % 40) = true
      unfold rootB
      simp
      omega
/-- the first two arcs -/
def idH (l : List Nat) : Nat × Nat := match l with | [] => (2, 999) | x :: _ => (x % 3, x / 3 % 40)
theorem idA_head (l : List Nat) : idA l = (idH l).1 :: (idH l).2 :: ((l.drop 1).take 7).map shiftA := by cases l <;> rfl
theorem i64_and31 (a : Nat) (ha : a < 9223372036854775808) : bits .and .i64 (a : Int) 2147483647 = ((a % 2147483648 : Nat) : Int) := by
  have := i64_and_nat a 2147483647 ha (by omega)
  rw [show a &&& 2147483647 = a % 2147483648 from Nat.and_two_pow_sub_one_eq_mod a 31] at this
  rw [show (2147483647 : Int) = ((2147483647 : Nat) : Int) from rfl, this]
theorem show_two (a b : Nat) : showL [a, b] = decL a ++ 46 :: decL b := rfl
/-- the state of a region that reads one cell and calls what allocates -/
theorem heldB {W0 W w9 : World} {p : Addr} {v : Value} (h : Below W0.heap.size W0 W) (hb : Below W.heap.size W w9) (hc : W.cell? p = some v) : Below W0.heap.size W0 w9 ∧ w9.cell? p = some v :=
  ⟨h.trans (hb.mono h.size), cell_grows hb _ _ hc⟩


end Go.Proofs.YtiikpdjjhnhiiaaDoor

/- The law OidOrder, its walk: Less agrees with the definition and is a strict total order. -/
namespace Go.Proofs.YtiikpdjjhnhiiaaDoor
open Go.RowKit

/-- the state of a region that reads two cells of a pair and calls what allocates -/
theorem heldP {W0 W w9 : World} {p q : Addr} {u v : Value} (h : Below W0.heap.size W0 W) (hm : Mx W) (hb : Below W.heap.size W w9) (hc : W.cell? p = some u) (hd : W.cell? q = some v) :
    w9.cell? p = some u ∧ w9.cell? q = some v ∧ Mx w9 ∧ Below W0.heap.size W0 w9 :=
  ⟨cell_grows hb _ _ hc, cell_grows hb _ _ hd, hm.below hb, h.trans (hb.mono h.size)⟩
theorem pairC {P : Program} {f : FuncId} {args : Array Value} {W wx : World} {g : Nat} {p q : ByteArray} {v : Bool} (hc : Calls P f args W fun e w' => e = .returned (.bool v) ∧ Below W.heap.size W w')
    (h0 : W.cell? ⟨g, 0, none⟩ = some (.string p)) (h1 : W.cell? ⟨g, 1, none⟩ = some (.string q)) (h2 : Mx W) (h3 : Below wx.heap.size wx W) :
    Calls P f args W fun e w9 => e = .returned (.bool v) ∧ w9.cell? ⟨g, 0, none⟩ = some (.string p) ∧ w9.cell? ⟨g, 1, none⟩ = some (.string q) ∧ Mx w9 ∧ Below wx.heap.size wx w9 :=
  hc.mono fun _ _ he => ⟨he.1, heldP h3 h2 he.2 h0 h1⟩
def idS (l : List Int) : ByteArray := ⟨(showL (idL l)).toArray⟩
theorem showL_len : ∀ L : List Nat, (∀ n ∈ L, n ≤ 4294967295) → (showL L).length ≤ 11 * L.length
  | [], _ => by simp [showL, joinC]
  | [n], h => by
    have := decL_len 9 n (by have := h n (by simp); omega)
    show (decL n).length ≤ 11 * 1
    omega
  | n :: m :: r, h => by
    have ih := showL_len (m :: r) (fun x hx => h x (by simp [List.mem_cons.1 hx]))
    have := decL_len 9 n (by have := h n (by simp); omega)
    show (decL n ++ 46 :: showL (m :: r)).length ≤ _
    rw [List.length_append, List.length_cons]
    simp only [List.length_cons] at ih ⊢
    omega
theorem idS_size (l : List Int) : (idS l).size ≤ 132 := by
  have hv := valid_id (l.map Int.toNat)
  have := showL_len (idL l) (fun n hn => by have := hv.2.2.1 n hn; omega)
  have h2 : (idL l).length ≤ 12 := hv.2.1
  show (showL (idL l)).length ≤ 132
  omega
theorem idS_valid (l : List Int) : arcsP (idS l).data.toList = some (idL l) := arcsP_of (valid_id _)
theorem idS_validB (l : List Int) : validB (idS l).data.toList = true := by unfold validB; rw [idS_valid]; rfl


end Go.Proofs.YtiikpdjjhnhiiaaDoor
