/- The reference's ParseName: plain laws; its table of short names. -/
import Derived.Test.YtepibepgfackkaaDoorNamR
import Derived.Test.YtepibepgfackkaaDoorNamH
namespace Go.Proofs.YtepibepgfackkaaDoor
open Go.RowKit

theorem indexByte_skip : ∀ (p r : List UInt8), (∀ x ∈ p, x ≠ 61) → Lib.indexByte (p ++ 61 :: r) 61 = (p.length : Int)
  | [], r, _ => by simpa using indexByte_hit 61 r
  | x :: p, r, h => by
    have ih := indexByte_skip p r (fun y hy => h y (by simp [hy]))
    rw [List.cons_append, indexByte_go (h x (by simp)) (by rw [ih]; omega), ih]
    simp
theorem indexByte_none : ∀ (p : List UInt8), (∀ x ∈ p, x ≠ 61) → Lib.indexByte p 61 = -1
  | [], _ => rfl
  | x :: p, h => indexByte_no (h x (by simp)) (indexByte_none p (fun y hy => h y (by simp [hy])))
theorem cutL_hit (p r : List UInt8) (h : ∀ x ∈ p, x ≠ 61) : cutL (p ++ 61 :: r) = (p, r, true) := by
  unfold cutL Lib.cut
  rw [Lib.index_one, indexByte_skip p r h, if_pos (by omega)]
  simp
theorem cutL_none (p : List UInt8) (h : ∀ x ∈ p, x ≠ 61) : (cutL p).2.2 = false := by
  unfold cutL Lib.cut
  rw [Lib.index_one, indexByte_none p h, if_neg (by omega)]
/-- the last of the short names that fits -/
def rshL : List Short → List UInt8 → List UInt8
  | [], id => id
  | p :: r, id => rshL r (if p.1 = id then p.2 else id)
theorem rsh_eq (id : List UInt8) : rshL shortTab id = shortL shortTab id := by
  by_cases h : ∃ p ∈ shortTab, p.1 = id
  · obtain ⟨p, hp, rfl⟩ := h
    revert p
    decide
  · have hn : ∀ p ∈ shortTab, p.1 ≠ id := fun p hp e => h ⟨p, hp, e⟩
    have h1 : ∀ l : List Short, (∀ p ∈ l, p.1 ≠ id) → rshL l id = id := by
      intro l
      induction l with
      | nil => intro _; rfl
      | cons p r ih => intro hl; rw [rshL, if_neg (hl p (by simp)), ih (fun q hq => hl q (by simp [hq]))]
    have h2 : ∀ l : List Short, (∀ p ∈ l, p.1 ≠ id) → shortL l id = id := by
      intro l
      induction l with
      | nil => intro _; rfl
      | cons p r ih => intro hl; rw [shortL, if_neg (hl p (by simp)), ih (fun q hq => hl q (by simp [hq]))]
    rw [h1 _ hn, h2 _ hn]
def shortF : List (List UInt8) := shortTab.flatMap fun p => [p.1, p.2]
theorem shortF_at : ∀ i, i < 7 → shortF[2 * i]? = some (shortTab.getD i ([], [])).1 ∧ shortF[2 * i + 1]? = some (shortTab.getD i ([], [])).2 := by decide
theorem shortTab_drop : ∀ i, i < 7 → shortTab.drop i = shortTab.getD i ([], []) :: shortTab.drop (i + 1) := by decide
theorem shortTab_len : ∀ i, i < 7 → (shortTab.getD i ([], [])).1.length ≤ 100 ∧ (shortTab.getD i ([], [])).2.length ≤ 100 := by decide

set_option maxHeartbeats 1000000 in
theorem rshort_any (w : World) : Calls Tryd.prog 42 #[] w fun e w' => ∃ g, e = .returned (.slice (some ⟨g, 0, none⟩) 14 14) ∧ g = w.heap.size ∧ Below w.heap.size w w' ∧ w'.heap.size = w.heap.size + 1 ∧ Sl RStr 1 w' (Lt w'.heap.size) shortF [.slice (some ⟨g, 0, none⟩) 14 14] := by
  have hs := fun C t (h : C.toList = shortF.flatMap strC) => sl_new (f := strC) (size := 1) (fun _ => rfl) w C t shortF h (by simp [shortF, shortTab, maxLen])
  have HS := hide hs
  clear hs
  go_enter Tryd.func42, Tryd.ntmps42
  go_wp2_with fail
  go_ret
  exact ⟨_, rfl, rfl, (Below.refl _ _).alloc (Nat.le_refl _) _, by simp, HS.out _ _ rfl⟩
theorem runesc_v (s : ByteArray) (hs : s.size ≤ 1000000) (w : World) :
    Calls Tryd.prog 43 #[.string s] w fun e w' => e = .returned (optR (unesc s.data.toList)) ∧ Below w.heap.size w w' :=
  (rUnescape_any s hs w).mono fun _ _ ⟨he, hb⟩ => ⟨by rw [he, unesc_eq], hb⟩
theorem rparse_none {q : List UInt8} (h : ∀ x ∈ q, x ≠ 61) : parseA q = none := by
  unfold parseA
  rw [if_pos (cutL_none q h)]
theorem rparse_hit {p r : List UInt8} (h : ∀ x ∈ p, x ≠ 61) : parseA (p ++ 61 :: r) = (unesc r).bind fun v => if validB (rshL shortTab p) = true then some (rshL shortTab p, kindA (rshL shortTab p) v, v) else none := by
  unfold parseA
  rw [cutL_hit p r h, if_neg (by simp), rsh_eq]
end Go.Proofs.YtepibepgfackkaaDoor
