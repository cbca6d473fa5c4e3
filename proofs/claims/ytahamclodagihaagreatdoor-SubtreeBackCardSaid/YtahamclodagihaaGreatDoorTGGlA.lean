/- Lists of general names, plain: what EncodeList writes, what DecodeList reads. -/
import Derived.Test.YtahamclodagihaaGreatDoorTGGcA
import Derived.Test.YtahamclodagihaaGreatDoorTGdB
namespace Go.Proofs.YtahamclodagihaaGreatDoor
open Go.RowKit
def chkGs (c : Bool) : List Gen → Int
 | [] => 0
 | g :: l => if chkG g c = 0 then chkGs c l else chkG g c
theorem chkGs_iff (c : Bool) : ∀ l : List Gen, chkGs c l = 0 ↔ ∀ g ∈ l, chkG g c = 0
  | [] => by simp [chkGs]
  | g :: l => by
    rw [chkGs]
    by_cases h : chkG g c = 0
    · rw [if_pos h, chkGs_iff c l]
      simp [h]
    · rw [if_neg h]
      simp [h]
theorem encGB_len {g : Gen} {c : Bool} (h : chkG g c = 0) (hs : g.2.1.length ≤ 100000) : (encGB g).length ≤ 100010 := by
 unfold encGB
 split
 ·rename_i h4
  have hn : chkN g.2.2 = 0 := by
   unfold chkG at h
   rw [if_pos h4] at h
   split at h
   ·exact h
   ·cases h
  rw [wrapW_len]
  have := encB_size hn
  have := lenB_le (encB g.2.2).length
  omega
 ·rw [wrapW_len]
  have := lenB_le g.2.1.length
  omega
def decGE (c : Bool) (e : Elt) : Except Int Gen := decG (e.1 : Int) e.2.1 c
def toGs : Except Int (List Gen) → Int × List Gen
 | .error k => (k, [])
 | .ok l => (0, l)
theorem decGC_err0 {g : Gen} {c : Bool} : decGC g c ≠ .error 0 := fun h => by
 unfold decGC at h
 split at h
 ·cases h
 ·rename_i hn
  exact hn (Except.error.inj h)
theorem decG_err0 {t : Int} {x : List UInt8} {c : Bool} : decG t x c ≠ .error 0 := fun h => by
  unfold decG at h
  split at h
  · exact decGC_err0 h
  · split at h
    · cases hd : decN x with
      | error k =>
        rw [hd] at h
        simp only [decGN, Except.error.injEq] at h
        subst h
        exact decN_err0' x hd
      | ok n =>
        rw [hd] at h
        exact decGC_err0 h
    · cases h
theorem decGE_enc {g : Gen} {c : Bool} (h : chkG g c = 0) (hs : g.2.1.length ≤ 131072) :
  ∃ e : Elt, oneF (encGB g) = .ok e ∧ (∀ r, readF (encGB g ++ r) = .ok (e, r)) ∧ decGE c e = .ok (g.1, g.2.1, if g.1 = 4 then g.2.2.map sortR else g.2.2) ∧ sameNB g.2.2 (if g.1 = 4 then g.2.2.map sortR else g.2.2) = true ∧ e.2.2 = encGB g ∧ e.2.1.length ≤ 131072 := by
 obtain ⟨k, t, n⟩ := g
 simp only at hs
 by_cases h4 : k = 4
 ·subst h4
  have hk : t = [] ∧ chkN n = 0 := by
   rw [chkG] at h
   simp only [if_true] at h
   by_cases ht : t = []
   ·rw [if_pos ht] at h; exact ⟨ht, h⟩
   ·rw [if_neg ht] at h; cases h
  obtain ⟨rfl, hn⟩ := hk
  have hz := encB_size hn
  have he : encGB (4, ([] : List UInt8), n) = wrapW 164 (encB n) := rfl
  refine ⟨(164, encB n, wrapW 164 (encB n)), ?_, fun r => ?_, ?_, ?_, ?_, ?_⟩
  ·rw [he]; exact one_wrap 164 (by decide) (by decide) _ (by omega)
  ·rw [he]; exact read_wrap 164 (by decide) (by decide) _ _ (by omega)
  ·show decG 164 (encB n) c = _
   rw [decG, if_neg (by decide), if_pos rfl, decN_enc hn, decGN]
   simp only [if_true]
   rw [decGC_ok]
   rw [chkG]
   simp only [if_true]
   exact chkN_sort hn
  ·simp only [if_true]; exact same_sort n
  ·rw [he]
  ·show (encB n).length ≤ _; omega
 ·rcases chkG_kind h h4 with hk | hk | hk
  all_goals
   have hk' : k = _ := hk
   subst hk'
   have hh := h
   rw [chkG, if_neg h4] at hh
   split at hh
   case isFalse => cases hh
   rename_i hv
   obtain ⟨hn, hv⟩ := hv
   have hn' : n = [] := hn
   subst hn'
  ·refine ⟨(129, t, wrapW 129 t), one_wrap 129 (by decide) (by decide) _ hs, fun r => read_wrap 129 (by decide) (by decide) _ _ hs, ?_, rfl, rfl, hs⟩
   show decG 129 t c = _
   rw [decG, if_pos (.inl rfl)]
   exact decGC_ok h
  ·refine ⟨(130, t, wrapW 130 t), one_wrap 130 (by decide) (by decide) _ hs, fun r => read_wrap 130 (by decide) (by decide) _ _ hs, ?_, rfl, rfl, hs⟩
   show decG 130 t c = _
   rw [decG, if_pos (.inr (.inl rfl))]
   exact decGC_ok h
  ·refine ⟨(135, t, wrapW 135 t), one_wrap 135 (by decide) (by decide) _ hs, fun r => read_wrap 135 (by decide) (by decide) _ _ hs, ?_, rfl, rfl, hs⟩
   show decG 135 t c = _
   rw [decG, if_pos (.inr (.inr rfl))]
   exact decGC_ok h
def sameGB (a b : Gen) : Bool := (a.1 == b.1 && a.2.1 == b.2.1) && sameNB a.2.2 b.2.2
def sameGsB : List Gen → List Gen → Bool
 | [], [] => true
 | a :: l, b :: m => sameGB a b && sameGsB l m
 | _, _ => false
theorem sameGsB_at : ∀ {n m : List Gen}, sameGsB n m = true → n.length = m.length ∧ ∀ (i : Nat) (h : i < n.length) (h2 : i < m.length), sameGB n[i] m[i] = true
  | [], [], _ => ⟨rfl, fun i h => absurd h (by simp)⟩
  | a :: n, b :: m, h => by
    rw [sameGsB, Bool.and_eq_true] at h
    obtain ⟨h1, h2⟩ := sameGsB_at h.2
    refine ⟨by simp [h1], fun i hi hi2 => ?_⟩
    match i with
    | 0 => exact h.1
    | i + 1 => exact h2 i (by simpa using hi) (by simpa using hi2)
  | [], _ :: _, h => by cases h
  | _ :: _, [], h => by cases h
def sortG (g : Gen) : Gen := (g.1, g.2.1, if g.1 = 4 then g.2.2.map sortR else g.2.2)
end Go.Proofs.YtahamclodagihaaGreatDoor
namespace Go.Proofs.YtahamclodagihaaGreatDoor
open Go.RowKit
end Go.Proofs.YtahamclodagihaaGreatDoor
namespace Go.Proofs.YtahamclodagihaaGreatDoor
open Go.RowKit
end Go.Proofs.YtahamclodagihaaGreatDoor
