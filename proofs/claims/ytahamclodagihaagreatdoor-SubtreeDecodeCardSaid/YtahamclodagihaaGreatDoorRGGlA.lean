/- Lists of general names, plain: what EncodeList writes, what DecodeList reads. -/
import Derived.Test.YtahamclodagihaaGreatDoorRGGcA
import Derived.Test.YtahamclodagihaaGreatDoorRGdB
namespace Go.Proofs.YtahamclodagihaaGreatDoor
open Go.RowKit
def chkGs (c : Bool) : List Gen → Int
 | [] => 0
 | g :: l => if chkG g c = 0 then chkGs c l else chkG g c
theorem chkGs_iff (c : Bool) : ∀ l : List Gen, chkGs c l = 0 ↔ ∀ g ∈ l, chkG g c = 0
  | [] => by simp [chkGs]
  | g :: l => by
    rw [chkGs]
    by_cases h : chkG g c = 0
    · rw [if_pos h, chkGs_iff c l]
      simp [h]
    · rw [if_neg h]
      simp [h]
theorem chkGs_go {c : Bool} {l : List Gen} {k : Nat} (h : k < l.length) {q : Int} (hq : chkG l[k] c = q) (h0 : q = 0) : chkGs c (l.drop k) = chkGs c (l.drop (k + 1)) := by
 rw [List.drop_eq_getElem_cons h, chkGs, if_pos (hq.trans h0)]
theorem chkGs_no {c : Bool} {l : List Gen} {k : Nat} (h : k < l.length) {q : Int} (hq : chkG l[k] c = q) (h0 : q ≠ 0) : chkGs c (l.drop k) = q := by
 rw [List.drop_eq_getElem_cons h, chkGs, if_neg (by rw [hq]; exact h0), hq]
theorem encGB_len {g : Gen} {c : Bool} (h : chkG g c = 0) (hs : g.2.1.length ≤ 100000) : (encGB g).length ≤ 100010 := by
 unfold encGB
 split
 ·rename_i h4
  have hn : chkN g.2.2 = 0 := by
   unfold chkG at h
   rw [if_pos h4] at h
   split at h
   ·exact h
   ·cases h
  rw [wrapW_len]
  have := encB_size hn
  have := lenB_le (encB g.2.2).length
  omega
 ·rw [wrapW_len]
  have := lenB_le g.2.1.length
  omega
def decGE (c : Bool) (e : Elt) : Except Int Gen := decG (e.1 : Int) e.2.1 c
def toGs : Except Int (List Gen) → Int × List Gen
 | .error k => (k, [])
 | .ok l => (0, l)
theorem decGC_err0 {g : Gen} {c : Bool} : decGC g c ≠ .error 0 := fun h => by
 unfold decGC at h
 split at h
 ·cases h
 ·rename_i hn
  exact hn (Except.error.inj h)
theorem decG_err0 {t : Int} {x : List UInt8} {c : Bool} : decG t x c ≠ .error 0 := fun h => by
  unfold decG at h
  split at h
  · exact decGC_err0 h
  · split at h
    · cases hd : decN x with
      | error k =>
        rw [hd] at h
        simp only [decGN, Except.error.injEq] at h
        subst h
        exact decN_err0' x hd
      | ok n =>
        rw [hd] at h
        exact decGC_err0 h
    · cases h
end Go.Proofs.YtahamclodagihaaGreatDoor
namespace Go.Proofs.YtahamclodagihaaGreatDoor
open Go.RowKit
end Go.Proofs.YtahamclodagihaaGreatDoor
namespace Go.Proofs.YtahamclodagihaaGreatDoor
open Go.RowKit
end Go.Proofs.YtahamclodagihaaGreatDoor
