/- Plain law: strings.Split at a separator of one byte is the splitting of the bytes at that byte. -/
import Derived.Test.YtbafpgdmnkkclaaDoorLib
import Derived.Lib.SplitLaws
import Derived.Lib.IndexBytes
namespace Go.Proofs.YtbafpgdmnkkclaaDoor
open Go.RowKit

theorem byte_beq' (a b : UInt8) : ((a.toNat : Int) == (b.toNat : Int)) = (a == b) := by
  rw [Bool.eq_iff_iff]
  simp only [beq_iff_eq]
  constructor
  · intro h
    exact UInt8.toNat_inj.1 (by omega)
  · rintro rfl; rfl

/-- the pieces of l between the bytes c -/
def splitC (c : UInt8) : List UInt8 → List (List UInt8)
  | [] => [[]]
  | x :: r => if x = c then [] :: splitC c r else match splitC c r with
    | [] => [[x]]
    | p :: ps => (x :: p) :: ps
theorem splitC_ne (c : UInt8) : ∀ l, splitC c l ≠ []
  | [] => by simp [splitC]
  | x :: r => by
    unfold splitC
    split
    · simp
    · split <;> simp
theorem indexByte_hit (c : UInt8) (r : List UInt8) : Lib.indexByte (c :: r) c = 0 := by simp [Lib.indexByte]
theorem indexByte_no {x c : UInt8} {r : List UInt8} (hx : x ≠ c) (hr : Lib.indexByte r c = -1) : Lib.indexByte (x :: r) c = -1 := by simp [Lib.indexByte, hx, hr]
theorem indexByte_go {x c : UInt8} {r : List UInt8} (hx : x ≠ c) (hr : Lib.indexByte r c ≠ -1) : Lib.indexByte (x :: r) c = Lib.indexByte r c + 1 := by simp [Lib.indexByte, hx, hr]
theorem splitC_index (c : UInt8) : ∀ l : List UInt8, splitC c l = if Lib.indexByte l c = -1 then [l] else l.take (Lib.indexByte l c).toNat :: splitC c (l.drop ((Lib.indexByte l c).toNat + 1))
  | [] => by simp [splitC, Lib.indexByte]
  | x :: r => by
    have ih := splitC_index c r
    have hge := Lib.indexByte_ge r c
    rw [splitC]
    by_cases hx : x = c
    · subst hx
      rw [if_pos rfl, indexByte_hit]
      rfl
    · rw [if_neg hx]
      by_cases hr : Lib.indexByte r c = -1
      · rw [if_pos hr] at ih
        rw [indexByte_no hx hr, if_pos rfl, ih]
      · rw [if_neg hr] at ih
        rw [indexByte_go hx hr, if_neg (by omega), ih]
        have e1 : (Lib.indexByte r c + 1).toNat = (Lib.indexByte r c).toNat + 1 := by omega
        rw [e1, List.take_succ_cons, List.drop_succ_cons]
theorem splitK_C (c : UInt8) : ∀ (n : Nat) (l : List UInt8), Lib.count l [c] = n → Lib.splitK [c] 0 n l = splitC c l
  | n, l, h => by
    rw [splitC_index]
    by_cases hi : Lib.indexByte l c = -1
    · rw [if_pos hi]
      have h0 : Lib.count l [c] = 0 := Lib.count_miss (by rw [Lib.index_one]; exact hi)
      have : n = 0 := by omega
      subst this
      rfl
    · rw [if_neg hi]
      have hge := Lib.indexByte_ge l c
      have hh := Lib.count_hit (s := l) (sub := [c]) (i := (Lib.indexByte l c).toNat) (by simp) (by rw [Lib.index_one]; omega)
      match n, h with
      | 0, h => omega
      | n + 1, h =>
        have ih := splitK_C c n (l.drop ((Lib.indexByte l c).toNat + 1)) (by rw [show [c].length = 1 from rfl] at hh; omega)
        rw [Lib.splitK, Lib.index_one, if_neg (by simpa using hi)]
        simp only [List.length_cons, List.length_nil, Nat.zero_add, Nat.add_zero]
        rw [ih]
theorem splitB_C (c : UInt8) (s : ByteArray) : (Lib.splitB ⟨#[c]⟩ 0 (Lib.countB s ⟨#[c]⟩) s).map (·.data.toList) = splitC c s.data.toList := by
  rw [Lib.splitB_data]
  exact splitK_C c _ s.data.toList rfl
theorem splitB_len (c : UInt8) (s : ByteArray) : (Lib.splitB ⟨#[c]⟩ 0 (Lib.countB s ⟨#[c]⟩) s).length = Lib.countB s ⟨#[c]⟩ + 1 :=
  Lib.splitB_all ⟨#[c]⟩ (Nat.le_refl 1) 0 _ s rfl
theorem splitC_total (c : UInt8) : ∀ l, ((splitC c l).map List.length).sum ≤ l.length
  | [] => by simp [splitC]
  | x :: r => by
    have ih := splitC_total c r
    unfold splitC
    split
    · simp; omega
    · split
      · rename_i h; exact absurd h (splitC_ne c r)
      · rename_i p ps h
        rw [h] at ih
        simp at ih ⊢
        omega
theorem splitC_len (c : UInt8) : ∀ l, (splitC c l).length ≤ l.length + 1
  | [] => by simp [splitC]
  | x :: r => by
    have ih := splitC_len c r
    unfold splitC
    split
    · simp; omega
    · split
      · simp
      · rename_i p ps h
        rw [h] at ih
        simp at ih ⊢
        omega
theorem splitC_mem_len (c : UInt8) (l p : List UInt8) (h : p ∈ splitC c l) : p.length ≤ l.length := by
  have h1 := splitC_total c l
  have h2 : p.length ≤ ((splitC c l).map List.length).sum := by
    generalize splitC c l = L at h
    clear h1
    induction L with
    | nil => cases h
    | cons q L ih =>
      rcases List.mem_cons.1 h with rfl | h
      · simp
      · have := ih h; simp; omega
  omega
end Go.Proofs.YtbafpgdmnkkclaaDoor
