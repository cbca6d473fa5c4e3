/- Names, plain: what Encode writes, what Decode reads, and that each inverts the other. -/
import Derived.Test.YtahamclodagihaaGreatDoorNGTlvJ
import Derived.Test.YtahamclodagihaaGreatDoorNGOidD
import Derived.Sort.Walk0
import Derived.BigRegion
import Derived.Test.YtahamclodagihaaGreatDoorNGOidS
import Derived.Test.YtahamclodagihaaGreatDoorNGNamR
namespace Go.Proofs.YtahamclodagihaaGreatDoor
open Go.RowKit
def leL (x y : List UInt8) : Bool := decide (x ≤ y)
def encA (a : Attr) : List UInt8 := wrapW 48 (idW a.1 ++ wrapW a.2.1.toNat a.2.2)
def sortR (r : List Attr) : List Attr := r.mergeSort fun a b => leL (encA a) (encA b)
def decAV (id : List UInt8) : List Elt → Except Int Attr
 | [] => .error 3
 | y :: q => if y.1 ≠ 12 ∧ y.1 ≠ 19 ∧ y.1 ≠ 22 then .error 5 else if q ≠ [] then .error 4 else .ok (id, (y.1 : Int), y.2.1)
def decAI (r : List Elt) : Option (List UInt8) → Except Int Attr
 | none => .error 11
 | some id => decAV id r
def decAL : List Elt → Except Int Attr
 | [] => .error 3
 | x :: r => if x.1 ≠ 6 then .error 5 else decAI r (decP x.2.1)
def decAG : Except Int (List Elt) → Except Int Attr
 | .error k => .error k
 | .ok l => decAL l
def decA (e : Elt) : Except Int Attr := decAG (openF e.1 48 e.2.1)
def okA (a : Attr) : Prop := validB a.1 = true ∧ a.2.2 ≠ [] ∧ validT a.2.1 a.2.2 = true ∧ a.2.2.length ≤ 64
theorem chkA_iff : ∀ (r pre : List Attr), chkA pre r = 0 ↔ (∀ a ∈ r, okA a) ∧ (∀ a ∈ r, ∀ b ∈ pre, b.1 ≠ a.1) ∧ r.Pairwise (fun a b => a.1 ≠ b.1)
  | [], pre => by simp [chkA]
  | a :: r, pre => by
    have ih := chkA_iff r (pre ++ [a])
    rw [chkA]
    by_cases h1 : validB a.1 = false
    · rw [if_pos h1]
      refine ⟨fun h => (by cases h), fun h => ?_⟩
      have := (h.1 a (by simp)).1
      rw [h1] at this; cases this
    rw [if_neg h1]
    by_cases h2 : a.2.2 = [] ∨ validT a.2.1 a.2.2 = false
    · rw [if_pos h2]
      refine ⟨fun h => (by cases h), fun h => ?_⟩
      have := h.1 a (by simp)
      rcases h2 with h2 | h2
      · exact absurd h2 this.2.1
      · have h3 := this.2.2.1
        rw [h2] at h3; cases h3
    rw [if_neg h2]
    by_cases h3 : 64 < a.2.2.length
    · rw [if_pos h3]
      refine ⟨fun h => (by cases h), fun h => ?_⟩
      have := (h.1 a (by simp)).2.2.2
      omega
    rw [if_neg h3]
    by_cases h4 : pre.any (fun b => b.1 == a.1) = true
    · rw [if_pos h4]
      refine ⟨fun h => (by cases h), fun h => ?_⟩
      obtain ⟨b, hb, he⟩ := List.any_eq_true.1 h4
      exact absurd (by simpa using he) (h.2.1 a (by simp) b hb)
    rw [if_neg h4, ih]
    have hok : okA a := ⟨by simpa using h1, fun e => h2 (.inl e), by
      cases hv : validT a.2.1 a.2.2 with
      | true => rfl
      | false => exact absurd (.inr hv) h2, by omega⟩
    have hpre : ∀ b ∈ pre, b.1 ≠ a.1 := fun b hb he => h4 (List.any_eq_true.2 ⟨b, hb, by simpa using he⟩)
    simp only [List.mem_cons, List.mem_append, List.not_mem_nil, or_false, List.pairwise_cons]
    constructor
    · rintro ⟨g1, g2, g3⟩
      refine ⟨?_, ?_, ?_, g3⟩
      · rintro x (rfl | hx)
        · exact hok
        · exact g1 x hx
      · rintro x (rfl | hx) b hb
        · exact hpre b hb
        · exact g2 x hx b (.inl hb)
      · intro x hx
        exact g2 x hx a (.inr rfl)
    · rintro ⟨g1, g2, g3, g4⟩
      refine ⟨fun x hx => g1 x (.inr hx), ?_, g4⟩
      rintro x hx b (hb | rfl)
      · exact g2 x (.inr hx) b hb
      · exact g3 x hx
def okR (r : List Attr) : Prop := r.length ≠ 0 ∧ r.length ≤ 4 ∧ (∀ a ∈ r, okA a) ∧ r.Pairwise (fun a b => a.1 ≠ b.1)
theorem chkR_iff (r : List Attr) : chkR r = 0 ↔ okR r := by
 unfold chkR okR
 by_cases h1 : r.length = 0
 ·rw [if_pos h1]
  exact ⟨fun h => (by cases h), fun h => absurd h1 h.1⟩
 rw [if_neg h1]
 by_cases h2 : 4 < r.length
 ·rw [if_pos h2]
  exact ⟨fun h => (by cases h), fun h => by have := h.2.1; omega⟩
 rw [if_neg h2, chkA_iff]
 constructor
 ·rintro ⟨g1, _, g3⟩
  exact ⟨h1, by omega, g1, g3⟩
 ·rintro ⟨_, _, g1, g3⟩
  exact ⟨g1, fun a _ b hb => (by cases hb), g3⟩
theorem chkRs_iff : ∀ n : Name, chkRs n = 0 ↔ ∀ r ∈ n, okR r
  | [] => by simp [chkRs]
  | r :: n => by
    have ih := chkRs_iff n
    rw [chkRs]
    by_cases h : chkR r = 0
    · rw [if_pos h, ih]
      have := (chkR_iff r).1 h
      simp [this]
    · rw [if_neg h]
      exact ⟨fun k => absurd k h, fun k => absurd ((chkR_iff r).2 (k r (by simp))) h⟩
theorem chkN_iff (n : Name) : chkN n = 0 ↔ n.length ≤ 8 ∧ ∀ r ∈ n, okR r := by
 unfold chkN
 by_cases h : 8 < n.length
 ·rw [if_pos h]
  exact ⟨fun k => (by cases k), fun k => by have := k.1; omega⟩
 ·rw [if_neg h, chkRs_iff]
  exact ⟨fun k => ⟨by omega, k⟩, fun k => k.2⟩
theorem okA_kind {a : Attr} (h : okA a) : (a.2.1 = 12 ∨ a.2.1 = 19 ∨ a.2.1 = 22) := by
 have := h.2.2.1
 unfold validT at this
 split at this
 ·rename_i e; exact .inl e
 ·split at this
  ·rename_i e; exact .inr (.inl e)
  ·split at this
   ·rename_i e; exact .inr (.inr e)
   ·cases this
theorem leL_trans (a b c : List UInt8) (h1 : leL a b = true) (h2 : leL b c = true) : leL a c = true := by
 unfold leL at *
 rw [decide_eq_true_eq] at *
 exact List.le_trans h1 h2
theorem leL_total (a b : List UInt8) : (leL a b || leL b a) = true := by
 unfold leL
 rw [Bool.or_eq_true, decide_eq_true_eq, decide_eq_true_eq]
 exact List.le_total a b
theorem leL_anti {a b : List UInt8} (h1 : leL a b = true) (h2 : leL b a = true) : a = b := by
 unfold leL at *
 rw [decide_eq_true_eq] at *
 exact List.le_antisymm h1 h2
theorem sortR_perm (r : List Attr) : (sortR r).Perm r := List.mergeSort_perm r _
def bodyA (a : Attr) : List UInt8 := idW a.1 ++ wrapW a.2.1.toNat a.2.2
def eltA (a : Attr) : Elt := (48, bodyA a, encA a)
theorem kind_nat {a : Attr} (h : okA a) : a.2.1.toNat < 256 ∧ a.2.1.toNat % 32 ≠ 31 ∧ ((a.2.1.toNat : Nat) : Int) = a.2.1 := by
 rcases okA_kind h with e | e | e <;> rw [e] <;> refine ⟨by decide, by decide, rfl⟩
theorem bodyA_len {a : Attr} (h : okA a) : (bodyA a).length ≤ 1080 := by
 obtain ⟨c, hc, hcl⟩ := encP_valid h.1
 have h64 := h.2.2.2
 rw [bodyA, idW, hc, List.length_append, wrapW_len, wrapW_len, Option.getD_some]
 have := lenB_le c.length
 have := lenB_le a.2.2.length
 omega
theorem decA_elt {a : Attr} (h : okA a) : decA (eltA a) = .ok a := by
 obtain ⟨c, hc, hcl⟩ := encP_valid h.1
 obtain ⟨k1, k2, k3⟩ := kind_nat h
 have h64 := h.2.2.2
 have h2 := list_wrap a.2.1.toNat k1 k2 a.2.2 [] (by omega)
 rw [List.append_nil, listF_nil] at h2
 have h1 := list_wrap 6 (by omega) (by omega) c (wrapW a.2.1.toNat a.2.2) (by omega)
 rw [h2] at h1
 have h0 : openF (48 : Nat) 48 (bodyA a) = .ok [(6, c, wrapW 6 c), (a.2.1.toNat, a.2.2, wrapW a.2.1.toNat a.2.2)] := by
  rw [openF, if_neg (by simp), bodyA, idW, hc, Option.getD_some, h1]
 rw [decA, eltA]
 simp only
 rw [h0, decAG, decAL, if_neg (by simp), dec_enc hc, decAI, decAV]
 have hkk : ¬ (a.2.1.toNat ≠ 12 ∧ a.2.1.toNat ≠ 19 ∧ a.2.1.toNat ≠ 22) := by
  rcases okA_kind h with e | e | e <;> rw [e] <;> simp
 simp only
 rw [if_neg hkk, if_neg (by simp), k3]
theorem list_encA : ∀ l : List Attr, (∀ a ∈ l, okA a) → listF (l.map encA).flatten = .ok (l.map eltA)
  | [], _ => rfl
  | a :: l, h => by
    have ih := list_encA l (fun x hx => h x (by simp [hx]))
    have ha := h a (by simp)
    have := bodyA_len ha
    have h1 := list_wrap 48 (by omega) (by omega) (bodyA a) (l.map encA).flatten (by omega)
    rw [ih] at h1
    rw [List.map_cons, List.flatten_cons, List.map_cons]
    exact h1
end Go.Proofs.YtahamclodagihaaGreatDoor
namespace Go.Proofs.YtahamclodagihaaGreatDoor
open Go.RowKit
end Go.Proofs.YtahamclodagihaaGreatDoor
namespace Go.Proofs.YtahamclodagihaaGreatDoor
open Go.RowKit
def AtB (g : Nat) (i : ByteArray) (k : Int) (v : ByteArray) (W : World) : Prop := W.heap[g]? = some (.cells #[.string i, .int .i64 k, .string v] 27 (0, 0))
theorem AtB.facts {g : Nat} {i v : ByteArray} {k : Int} {W : World} (h : AtB g i k v W) : W.cell? ⟨g, 0, none⟩ = some (.string i) ∧ W.cell? ⟨g, 1, none⟩ = some (.int .i64 k) ∧ W.cell? ⟨g, 2, none⟩ = some (.string v) ∧
  W.frozen? ⟨g, 0, none⟩ = false ∧ W.frozen? ⟨g, 1, none⟩ = false ∧ W.frozen? ⟨g, 2, none⟩ = false := by
 unfold AtB at h
 simp [World.cell?, World.frozen?, h]
theorem AtB.lt {g : Nat} {i v : ByteArray} {k : Int} {W : World} (h : AtB g i k v W) : g < W.heap.size := (Array.getElem?_eq_some_iff.1 h).1
theorem AtB.below {g : Nat} {i v : ByteArray} {k : Int} {W W' : World} (h : AtB g i k v W) (hb : Below W.heap.size W W') : AtB g i k v W' := (hb.block g h.lt).trans h
theorem AtB.ex {g d : Nat} {i v : ByteArray} {k : Int} {W W' : World} (h : AtB g i k v W) (hx : Ex d W W') (hne : g ≠ d) : AtB g i k v W' := (hx.block g h.lt (fun e => hne (Option.some.inj e))).trans h
theorem AtB.new (w : World) (i v : ByteArray) (k : Int) : AtB w.heap.size i k v (w.alloc (.cells #[.string i, .int .i64 k, .string v] 27)) := heap_alloc_new w _
theorem AtB.store {g : Nat} {i v : ByteArray} {k : Int} {W : World} (h : AtB g i k v W) (a b c : Value) :
  (((W.setCell ⟨g, 0, none⟩ a).setCell ⟨g, 1, none⟩ b).setCell ⟨g, 2, none⟩ c).cell? ⟨g, 0, none⟩ = some a ∧ (((W.setCell ⟨g, 0, none⟩ a).setCell ⟨g, 1, none⟩ b).setCell ⟨g, 2, none⟩ c).cell? ⟨g, 1, none⟩ = some b ∧
  (((W.setCell ⟨g, 0, none⟩ a).setCell ⟨g, 1, none⟩ b).setCell ⟨g, 2, none⟩ c).cell? ⟨g, 2, none⟩ = some c := by
 unfold AtB at h
 simp [World.cell?, World.setCell, Array.getElem?_modify, h]
end Go.Proofs.YtahamclodagihaaGreatDoor
namespace Go.Proofs.YtahamclodagihaaGreatDoor
open Go.RowKit
end Go.Proofs.YtahamclodagihaaGreatDoor
namespace Go.Proofs.YtahamclodagihaaGreatDoor
open Go.RowKit
theorem joinC_len (c : UInt8) (k : Nat) : ∀ ps : List (List UInt8), (∀ p ∈ ps, p.length ≤ k) → (joinC c ps).length ≤ ps.length * (k + 1)
  | [], _ => by simp [joinC]
  | [p], h => by have := h p (by simp); simp [joinC]; omega
  | p :: q :: r, h => by
    have ih := joinC_len c k (q :: r) (fun x hx => h x (by simp [hx]))
    have := h p (by simp)
    rw [joinC_cons c p (by simp), List.length_append, List.length_cons]
    rw [List.length_cons, Nat.add_mul, Nat.one_mul]
    omega
theorem valid_len {s : List UInt8} (h : validB s = true) : s.length ≤ 1000 := by
  unfold validB at h
  cases ha : arcsP s with
  | none => rw [ha] at h; cases h
  | some l =>
    obtain ⟨_, h12, h3, _⟩ := arcsP_some ha
    rw [arcsP_show ha, showL]
    have := joinC_len 46 11 (l.map decL) (fun p hp => by
      obtain ⟨n, hn, rfl⟩ := List.mem_map.1 hp
      have := decL_len 10 n (by have := h3 n hn; omega)
      omega)
    rw [List.length_map] at this
    omega
end Go.Proofs.YtahamclodagihaaGreatDoor
