/- Elements, plain: what Wrap writes, what Read reads, and that it reads what Wrap writes. -/
import Derived.Lib.Hide
import Derived.Test.YtmgnihmjjijdoaaDoorKGSplit
import Derived.Deep.LoopGhost
import Derived.Deep.Cut
import Derived.BigRegion
namespace Go.Proofs.YtmgnihmjjijdoaaDoor
open Go.RowKit
def lenB (n : Nat) : List UInt8 :=
 if n < 128 then [UInt8.ofNat n] else if n < 256 then [129, UInt8.ofNat n] else if n < 65536 then [130, UInt8.ofNat (n / 256), UInt8.ofNat n] else [131, UInt8.ofNat (n / 65536), UInt8.ofNat (n / 256), UInt8.ofNat n]
def wrapW (t : Nat) (c : List UInt8) : List UInt8 := UInt8.ofNat t :: (lenB c.length ++ c)
def wrapF (t : Nat) (xs : List (List UInt8)) : List UInt8 × Int :=
 if 131072 < xs.flatten.length then ([], 6) else (wrapW t xs.flatten, 0)
abbrev Elt := Nat × List UInt8 × List UInt8
def beB (l : List UInt8) : Nat := l.foldl (fun n c => n * 256 + c.toNat) 0
def leastB (k : Nat) : Nat := if k = 1 then 128 else if k = 2 then 256 else 65536
def cutB (b : List UInt8) (t at_ n : Nat) : Option (Elt × List UInt8) :=
 if b.length - at_ < n then none else some ((t, (b.drop at_).take n, b.take (at_ + n)), b.drop (at_ + n))
theorem beB_one (a : Nat) (h : a < 256) : beB [UInt8.ofNat a] = a := by
 simp [beB, UInt8.toNat_ofNat']; omega
theorem beB_two (m : Nat) (h : m < 65536) : beB [UInt8.ofNat (m / 256), UInt8.ofNat m] = m := by
 simp [beB, UInt8.toNat_ofNat']; omega
theorem beB_three (m : Nat) (h : m < 16777216) : beB [UInt8.ofNat (m / 65536), UInt8.ofNat (m / 256), UInt8.ofNat m] = m := by
 simp [beB, UInt8.toNat_ofNat']; omega
theorem lenB_le (n : Nat) : (lenB n).length ≤ 4 := by
 unfold lenB; split
 ·simp
 ·split
  ·simp
  ·split <;> simp
theorem wrapW_len (t : Nat) (c : List UInt8) : (wrapW t c).length = 1 + (lenB c.length).length + c.length := by
 simp [wrapW]; omega
theorem cut_wrap (t : Nat) (c r : List UInt8) :
  cutB (wrapW t c ++ r) t (1 + (lenB c.length).length) c.length = some ((t, c, wrapW t c), r) := by
 have hl := wrapW_len t c
 have e1 : wrapW t c ++ r = (UInt8.ofNat t :: lenB c.length) ++ (c ++ r) := by simp [wrapW]
 have e2 : (UInt8.ofNat t :: lenB c.length).length = 1 + (lenB c.length).length := by simp; omega
 have h1 : (wrapW t c ++ r).drop (1 + (lenB c.length).length) = c ++ r := by
  rw [e1, ← e2, List.drop_left]
 have h2 : (wrapW t c ++ r).take (1 + (lenB c.length).length + c.length) = wrapW t c := by
  rw [← hl, List.take_left]
 have h3 : (wrapW t c ++ r).drop (1 + (lenB c.length).length + c.length) = r := by
  rw [← hl, List.drop_left]
 rw [cutB, if_neg (by rw [List.length_append]; omega), h1, h2, h3, List.take_left]
def cutE (b : List UInt8) (t at_ n : Nat) : Except Int (Elt × List UInt8) :=
 match cutB b t at_ n with
 | none => .error 3
 | some x => .ok x
def readF : List UInt8 → Except Int (Elt × List UInt8)
  | [] => .error 3
  | t :: r =>
    if t.toNat % 32 = 31 then .error 5 else
    match r with
    | [] => .error 3
    | n :: q =>
      if n.toNat = 128 ∨ 131 < n.toNat then .error 6
      else if n.toNat < 128 then cutE (t :: n :: q) t.toNat 2 n.toNat
      else if q.length < n.toNat - 128 then .error 3
      else if beB (q.take (n.toNat - 128)) < leastB (n.toNat - 128) ∨ 131072 < beB (q.take (n.toNat - 128)) then .error 6
      else cutE (t :: n :: q) t.toNat (2 + (n.toNat - 128)) (beB (q.take (n.toNat - 128)))
theorem ofNat_lt (a : Nat) (h : a < 256) : (UInt8.ofNat a).toNat = a := by rw [UInt8.toNat_ofNat']; omega
theorem read_wrap (t : Nat) (ht : t < 256) (ht31 : t % 32 ≠ 31) (c r : List UInt8) (hc : c.length ≤ 131072) : readF (wrapW t c ++ r) = .ok ((t, c, wrapW t c), r) := by
 have hcut := cut_wrap t c r
 obtain ⟨m, hm⟩ : ∃ m, c.length = m := ⟨_, rfl⟩
 rw [hm] at hc hcut
 have et := ofNat_lt t ht
 have hcut' : ∀ a, 1 + (lenB m).length = a → cutE (wrapW t c ++ r) t a m = .ok ((t, c, wrapW t c), r) := fun a ha => by
  subst ha; rw [cutE, hcut]
 clear hcut
 rw [wrapW, hm] at hcut' ⊢
 by_cases h1 : m < 128
 ·have e : lenB m = [UInt8.ofNat m] := by rw [lenB, if_pos h1]
  rw [e] at hcut' ⊢
  have em := ofNat_lt m (by omega)
  have := hcut' 2 rfl
  simp only [List.cons_append, List.nil_append] at this ⊢
  rw [readF]
  simp only [et, em]
  rw [if_neg ht31, if_neg (by omega), if_pos h1]
  exact this
 ·by_cases h2 : m < 256
  ·have e : lenB m = [129, UInt8.ofNat m] := by rw [lenB, if_neg h1, if_pos h2]
   rw [e] at hcut' ⊢
   have em := beB_one m h2
   have := hcut' 3 rfl
   have e9 : (129 : UInt8).toNat = 129 := rfl
   simp only [List.cons_append, List.nil_append] at this ⊢
   rw [readF]
   simp only [et, e9, Nat.reduceSub, List.take_succ_cons, List.take_zero, em, leastB, List.length_cons]
   rw [if_neg ht31, if_neg (by omega), if_neg (by omega), if_neg (by omega), if_neg (by simp; omega)]
   exact this
  ·by_cases h3 : m < 65536
   ·have e : lenB m = [130, UInt8.ofNat (m / 256), UInt8.ofNat m] := by rw [lenB, if_neg h1, if_neg h2, if_pos h3]
    rw [e] at hcut' ⊢
    have em := beB_two m h3
    have := hcut' 4 rfl
    have e9 : (130 : UInt8).toNat = 130 := rfl
    simp only [List.cons_append, List.nil_append] at this ⊢
    rw [readF]
    simp only [et, e9, Nat.reduceSub, List.take_succ_cons, List.take_zero, em, leastB, List.length_cons]
    rw [if_neg ht31, if_neg (by omega), if_neg (by omega), if_neg (by omega), if_neg (by simp; omega)]
    exact this
   ·have e : lenB m = [131, UInt8.ofNat (m / 65536), UInt8.ofNat (m / 256), UInt8.ofNat m] := by rw [lenB, if_neg h1, if_neg h2, if_neg h3]
    rw [e] at hcut' ⊢
    have em := beB_three m (by omega)
    have := hcut' 5 rfl
    have e9 : (131 : UInt8).toNat = 131 := rfl
    simp only [List.cons_append, List.nil_append] at this ⊢
    rw [readF]
    simp only [et, e9, Nat.reduceSub, List.take_succ_cons, List.take_zero, em, leastB, List.length_cons]
    rw [if_neg ht31, if_neg (by omega), if_neg (by omega), if_neg (by omega), if_neg (by simp; omega)]
    exact this
theorem u8_eq {a b : UInt8} (h : a.toNat = b.toNat) : a = b := UInt8.toNat_inj.1 h
theorem ofNat_mod (a : Nat) : (UInt8.ofNat a).toNat = a % 256 := by rw [UInt8.toNat_ofNat']
theorem len_dec (x : UInt8) (l : List UInt8) (hx : 128 < x.toNat) (hx2 : x.toNat ≤ 131) (hl : l.length = x.toNat - 128) (h1 : leastB (x.toNat - 128) ≤ beB l) : lenB (beB l) = x :: l := by
  match l, hl with
  | [], hl => simp at hl; omega
  | [a], hl =>
    have ex : x = 129 := u8_eq (by show x.toNat = 129; simp at hl; omega)
    subst ex
    have hb : beB [a] = a.toNat := by simp [beB]
    have ha := a.toNat_lt
    have h2 : 128 ≤ a.toNat := by rw [hb, show leastB ((129 : UInt8).toNat - 128) = 128 by decide +kernel] at h1; exact h1
    rw [hb, lenB, if_neg (by omega), if_pos (by omega)]
    exact congrArg (fun y => [129, y]) (u8_eq (by rw [ofNat_mod]; omega))
  | [a, b], hl =>
    have ex : x = 130 := u8_eq (by show x.toNat = 130; simp at hl; omega)
    subst ex
    have hb : beB [a, b] = a.toNat * 256 + b.toNat := by simp [beB]
    have ha := a.toNat_lt
    have hb' := b.toNat_lt
    have h2 : 256 ≤ a.toNat * 256 + b.toNat := by rw [hb, show leastB ((130 : UInt8).toNat - 128) = 256 by decide +kernel] at h1; exact h1
    rw [hb, lenB, if_neg (by omega), if_neg (by omega), if_pos (by omega)]
    rw [u8_eq (a := UInt8.ofNat ((a.toNat * 256 + b.toNat) / 256)) (b := a) (by rw [ofNat_mod]; omega), u8_eq (a := UInt8.ofNat (a.toNat * 256 + b.toNat)) (b := b) (by rw [ofNat_mod]; omega)]
  | [a, b, c], hl =>
    have ex : x = 131 := u8_eq (by show x.toNat = 131; simp at hl; omega)
    subst ex
    have hb : beB [a, b, c] = (a.toNat * 256 + b.toNat) * 256 + c.toNat := by simp [beB]
    have ha := a.toNat_lt
    have hb' := b.toNat_lt
    have hc' := c.toNat_lt
    have h2 : 65536 ≤ (a.toNat * 256 + b.toNat) * 256 + c.toNat := by rw [hb, show leastB ((131 : UInt8).toNat - 128) = 65536 by decide +kernel] at h1; exact h1
    rw [hb, lenB, if_neg (by omega), if_neg (by omega), if_neg (by omega)]
    rw [u8_eq (a := UInt8.ofNat (((a.toNat * 256 + b.toNat) * 256 + c.toNat) / 65536)) (b := a) (by rw [ofNat_mod]; omega), u8_eq (a := UInt8.ofNat (((a.toNat * 256 + b.toNat) * 256 + c.toNat) / 256)) (b := b) (by rw [ofNat_mod]; omega), u8_eq (a := UInt8.ofNat ((a.toNat * 256 + b.toNat) * 256 + c.toNat)) (b := c) (by rw [ofNat_mod]; omega)]
  | _ :: _ :: _ :: _ :: _, hl => simp at hl; omega
theorem cutE_ok {b : List UInt8} {t at_ n : Nat} {e : Elt} {r : List UInt8} (_ha : at_ ≤ b.length) (h : cutE b t at_ n = .ok (e, r)) :
  e.1 = t ∧ e.2.1.length = n ∧ e.2.2 = b.take at_ ++ e.2.1 ∧ b = e.2.2 ++ r := by
 rw [cutE, cutB] at h
 by_cases hn : b.length - at_ < n
 ·rw [if_pos hn] at h; cases h
 ·rw [if_neg hn] at h
  simp only [Except.ok.injEq, Prod.mk.injEq] at h
  obtain ⟨rfl, rfl⟩ := h
  refine ⟨rfl, by simp; omega, ?_, (List.take_append_drop _ _).symm⟩
  show b.take (at_ + n) = b.take at_ ++ (b.drop at_).take n
  rw [List.take_add]
theorem read_is_wrap {b : List UInt8} {e : Elt} {r : List UInt8} (h : readF b = .ok (e, r)) :
    e.1 < 256 ∧ e.1 % 32 ≠ 31 ∧ e.2.1.length ≤ 131072 ∧ e.2.2 = wrapW e.1 e.2.1 ∧ b = e.2.2 ++ r := by
  match b, h with
  | [], h => cases h
  | [t], h =>
    rw [readF] at h
    by_cases h31 : t.toNat % 32 = 31
    · rw [if_pos h31] at h; cases h
    · rw [if_neg h31] at h; cases h
  | t :: n :: q, h =>
    have ht := t.toNat_lt
    have hof : UInt8.ofNat t.toNat = t := u8_eq (by rw [ofNat_mod]; omega)
    rw [readF] at h
    by_cases h31 : t.toNat % 32 = 31
    · rw [if_pos h31] at h; cases h
    rw [if_neg h31] at h
    by_cases hn : n.toNat = 128 ∨ 131 < n.toNat
    · rw [if_pos hn] at h; cases h
    rw [if_neg hn] at h
    by_cases h128 : n.toNat < 128
    · rw [if_pos h128] at h
      obtain ⟨e1, e2, e3, e4⟩ := cutE_ok (by simp) h
      refine ⟨by omega, by rw [e1]; exact h31, by omega, ?_, e4⟩
      rw [e3, wrapW, e1, hof, e2, lenB, if_pos h128]
      have : UInt8.ofNat n.toNat = n := u8_eq (by rw [ofNat_mod]; omega)
      rw [this]; rfl
    · rw [if_neg h128] at h
      by_cases hq : q.length < n.toNat - 128
      · rw [if_pos hq] at h; cases h
      rw [if_neg hq] at h
      by_cases hv : beB (q.take (n.toNat - 128)) < leastB (n.toNat - 128) ∨ 131072 < beB (q.take (n.toNat - 128))
      · rw [if_pos hv] at h; cases h
      rw [if_neg hv] at h
      obtain ⟨e1, e2, e3, e4⟩ := cutE_ok (by simp; omega) h
      refine ⟨by omega, by rw [e1]; exact h31, by omega, ?_, e4⟩
      have hd := len_dec n (q.take (n.toNat - 128)) (by omega) (by omega) (by rw [List.length_take]; omega) (by omega)
      rw [e3, wrapW, e1, hof, e2, hd, show 2 + (n.toNat - 128) = n.toNat - 128 + 1 + 1 by omega, List.take_succ_cons, List.take_succ_cons]
      rfl
theorem read_shorter {b : List UInt8} {e : Elt} {r : List UInt8} (h : readF b = .ok (e, r)) : r.length < b.length := by
 obtain ⟨-, -, -, h4, h5⟩ := read_is_wrap h
 have := wrapW_len e.1 e.2.1
 rw [← h4] at this
 have h6 := congrArg List.length h5
 rw [List.length_append] at h6
 omega
def listN : Nat → List UInt8 → Except Int (List Elt)
  | _, [] => .ok []
  | 0, _ => .error 0
  | f + 1, c :: q =>
    match readF (c :: q) with
    | .error k => .error k
    | .ok (e, r) =>
      match listN f r with
      | .error k => .error k
      | .ok l => .ok (e :: l)
def listF (b : List UInt8) : Except Int (List Elt) := listN b.length b
theorem listN_fuel : ∀ (f g : Nat) (b : List UInt8), b.length ≤ f → b.length ≤ g → listN f b = listN g b
  | f, g, [], _, _ => by cases f <;> cases g <;> rfl
  | 0, _, _ :: _, h, _ => by simp at h
  | _, 0, _ :: _, _, h => by simp at h
  | f + 1, g + 1, c :: q, h1, h2 => by
    rw [listN, listN]
    cases hr : readF (c :: q) with
    | error k => rfl
    | ok x =>
      obtain ⟨e, r⟩ := x
      have hs := read_shorter hr
      simp only
      rw [listN_fuel f g r (by simp only [List.length_cons] at *; omega) (by simp only [List.length_cons] at *; omega)]
theorem listF_nil : listF [] = .ok [] := rfl
theorem listF_error {b : List UInt8} {k : Int} (hb : b ≠ []) (h : readF b = .error k) : listF b = .error k := by
 match b, hb with
 | c :: q, _ => rw [listF, List.length_cons, listN, h]
theorem listF_cons {b : List UInt8} {e : Elt} {r : List UInt8} (h : readF b = .ok (e, r)) : listF b = match listF r with | .error k => .error k | .ok l => .ok (e :: l) := by
  match b, h with
  | [], h => cases h
  | c :: q, h =>
    have hs := read_shorter h
    rw [listF, List.length_cons, listN, h]
    simp only
    rw [listF, listN_fuel q.length r.length r (by simp only [List.length_cons] at hs; omega) (Nat.le_refl _)]
theorem list_wrap (t : Nat) (ht : t < 256) (ht31 : t % 32 ≠ 31) (c r : List UInt8) (hc : c.length ≤ 131072) :
  listF (wrapW t c ++ r) = match listF r with | .error k => .error k | .ok l => .ok ((t, c, wrapW t c) :: l) := listF_cons (read_wrap t ht ht31 c r hc)
def oneF (b : List UInt8) : Except Int Elt :=
 match readF b with
 | .error k => .error k
 | .ok (e, r) => if r = [] then .ok e else .error 4
theorem one_wrap (t : Nat) (ht : t < 256) (ht31 : t % 32 ≠ 31) (c : List UInt8) (hc : c.length ≤ 131072) : oneF (wrapW t c) = .ok (t, c, wrapW t c) := by
 have := read_wrap t ht ht31 c [] hc
 rw [List.append_nil] at this
 rw [oneF, this]
 rfl
theorem one_is_wrap {b : List UInt8} {e : Elt} (h : oneF b = .ok e) : e.1 < 256 ∧ e.1 % 32 ≠ 31 ∧ e.2.1.length ≤ 131072 ∧ e.2.2 = b ∧ b = wrapW e.1 e.2.1 := by
  rw [oneF] at h
  cases hr : readF b with
  | error k => rw [hr] at h; cases h
  | ok x =>
    obtain ⟨e', r⟩ := x
    rw [hr] at h
    simp only at h
    by_cases h0 : r = []
    · rw [if_pos h0] at h
      simp only [Except.ok.injEq] at h
      subst h
      obtain ⟨h1, h2, h3, h4, h5⟩ := read_is_wrap hr
      rw [h0, List.append_nil] at h5
      exact ⟨h1, h2, h3, h5.symm, by rw [← h4]; exact h5⟩
    · rw [if_neg h0] at h; cases h
theorem list_is_wrap : ∀ (n : Nat) (b : List UInt8) (l : List Elt), b.length ≤ n → listF b = .ok l → ∀ e ∈ l, e.1 < 256 ∧ e.1 % 32 ≠ 31 ∧ e.2.1.length ≤ 131072 ∧ e.2.2 = wrapW e.1 e.2.1
  | _, [], l, _, h => by rw [listF_nil] at h; cases h; intro e he; cases he
  | 0, _ :: _, _, hn, _ => by simp at hn
  | n + 1, c :: q, l, hn, h => by
    cases hr : readF (c :: q) with
    | error k => rw [listF_error (by simp) hr] at h; cases h
    | ok x =>
      obtain ⟨e, r⟩ := x
      have hs := read_shorter hr
      rw [listF_cons hr] at h
      cases hl : listF r with
      | error k => rw [hl] at h; cases h
      | ok l' =>
        rw [hl] at h
        simp only [Except.ok.injEq] at h
        subst h
        obtain ⟨h1, h2, h3, h4, _⟩ := read_is_wrap hr
        intro x hx
        rcases List.mem_cons.1 hx with rfl | hx
        · exact ⟨h1, h2, h3, h4⟩
        · exact list_is_wrap n r l' (by simp only [List.length_cons] at *; omega) hl x hx
theorem list_len : ∀ (n : Nat) (b : List UInt8) (l : List Elt), b.length ≤ n → listF b = .ok l → l.length ≤ b.length
  | _, [], l, _, h => by rw [listF_nil] at h; cases h; simp
  | 0, _ :: _, _, hn, _ => by simp at hn
  | n + 1, c :: q, l, hn, h => by
    cases hr : readF (c :: q) with
    | error k => rw [listF_error (by simp) hr] at h; cases h
    | ok x =>
      obtain ⟨e, r⟩ := x
      have hs := read_shorter hr
      rw [listF_cons hr] at h
      cases hl : listF r with
      | error k => rw [hl] at h; cases h
      | ok l' =>
        rw [hl] at h
        simp only [Except.ok.injEq] at h
        subst h
        have := list_len n r l' (by simp only [List.length_cons] at *; omega) hl
        simp only [List.length_cons] at *; omega
theorem read_len {b : List UInt8} {e : Elt} {r : List UInt8} (h : readF b = .ok (e, r)) : e.2.1.length < b.length ∧ e.2.2.length ≤ b.length ∧ r.length < b.length := by
 obtain ⟨_, _, _, h4, h5⟩ := read_is_wrap h
 have hw := wrapW_len e.1 e.2.1
 rw [← h4] at hw
 have := congrArg List.length h5
 rw [List.length_append] at this
 omega
theorem cutE_err0 {b : List UInt8} {t a n : Nat} : cutE b t a n ≠ .error 0 := by
 unfold cutE
 split
 ·simp
 ·simp
theorem read_err0 (b : List UInt8) : readF b ≠ .error 0 := by
  match b with
  | [] => simp [readF]
  | [t] => rw [readF]; split <;> simp
  | t :: n :: q =>
    rw [readF]
    split
    · simp
    · split
      · simp
      · split
        · exact cutE_err0
        · split
          · simp
          · split
            · simp
            · exact cutE_err0
theorem list_err0 : ∀ (n : Nat) (b : List UInt8), b.length ≤ n → listF b ≠ .error 0
  | _, [], _ => by rw [listF_nil]; simp
  | 0, _ :: _, hn => by simp at hn
  | n + 1, c :: q, hn => by
    cases hr : readF (c :: q) with
    | error k =>
      rw [listF_error (by simp) hr]
      intro h
      cases h
      exact read_err0 _ hr
    | ok x =>
      obtain ⟨e, r⟩ := x
      have hs := read_shorter hr
      rw [listF_cons hr]
      have := list_err0 n r (by simp only [List.length_cons] at *; omega)
      split
      · rename_i k hk
        intro h
        cases h
        exact this hk
      · simp
theorem one_err0 (b : List UInt8) : oneF b ≠ .error 0 := by
 unfold oneF
 split
 ·rename_i k hk
  intro h
  cases h
  exact read_err0 _ hk
 ·split <;> simp
end Go.Proofs.YtmgnihmjjijdoaaDoor
namespace Go.Proofs.YtmgnihmjjijdoaaDoor
open Go.RowKit
def eltC (e : Elt) : List Value := [.int .i64 (e.1 : Int), .string ⟨e.2.1.toArray⟩, .string ⟨e.2.2.toArray⟩]
abbrev RElt : Rep Elt := Pu eltC
theorem RElt.ok : RepOk RElt 3 := Pu.ok (fun _ => rfl) (fun x u hu => by simp [eltC] at hu; rcases hu with rfl | rfl | rfl <;> rfl)
def eltV (e : Elt) : Value := .agg #[.int .i64 (e.1 : Int), .string ⟨e.2.1.toArray⟩, .string ⟨e.2.2.toArray⟩]
def noElt : Value := .agg #[.int .i64 0, .string ⟨#[]⟩, .string ⟨#[]⟩]
def readR : Except Int (Elt × List UInt8) → Value
 | .error k => .tuple #[noElt, .string ⟨#[]⟩, .int .i64 k]
 | .ok (e, r) => .tuple #[eltV e, .string ⟨r.toArray⟩, .int .i64 0]
def ResE (g : Nat) (W : World) : Prop := W.heap[g]? = some (.cells #[.int .i64 0, .string ⟨#[]⟩, .string ⟨#[]⟩] 50 (0, 0))
theorem ResE.facts {g : Nat} {W : World} (h : ResE g W) : W.cell? ⟨g, 0, none⟩ = some (.int .i64 0) ∧ W.cell? ⟨g, 1, none⟩ = some (.string ⟨#[]⟩) ∧ W.cell? ⟨g, 2, none⟩ = some (.string ⟨#[]⟩) ∧
  W.frozen? ⟨g, 0, none⟩ = false ∧ W.frozen? ⟨g, 1, none⟩ = false ∧ W.frozen? ⟨g, 2, none⟩ = false := by
 unfold ResE at h
 simp [World.cell?, World.frozen?, h]
theorem ResE.below {g : Nat} {W W' : World} (h : ResE g W) (hb : Below W.heap.size W W') : ResE g W' := by
 have hlt : g < W.heap.size := (Array.getElem?_eq_some_iff.1 h).1
 exact (hb.block g hlt).trans h
theorem ResE.keep {g B : Nat} {W W' : World} (h : ResE g W) (hg : g < B) (hb : Below B W W') : ResE g W' := (hb.block g hg).trans h
theorem ResE.drewN {g : Nat} {W : World} (h : ResE g W) (n : Nat) : ResE g (W.drewN n) := h
theorem ResE.lt {g : Nat} {W : World} (h : ResE g W) : g < W.heap.size := (Array.getElem?_eq_some_iff.1 h).1
theorem ResE.store {g : Nat} {W : World} (h : ResE g W) (a b c : Value) :
  (((W.setCell ⟨g, 0, none⟩ a).setCell ⟨g, 1, none⟩ b).setCell ⟨g, 2, none⟩ c).cell? ⟨g, 0, none⟩ = some a ∧ (((W.setCell ⟨g, 0, none⟩ a).setCell ⟨g, 1, none⟩ b).setCell ⟨g, 2, none⟩ c).cell? ⟨g, 1, none⟩ = some b ∧
  (((W.setCell ⟨g, 0, none⟩ a).setCell ⟨g, 1, none⟩ b).setCell ⟨g, 2, none⟩ c).cell? ⟨g, 2, none⟩ = some c := by
 unfold ResE at h
 simp [World.cell?, World.setCell, Array.getElem?_modify, h]
theorem below_store3' {B g : Nat} {w W : World} (h : Below B w W) (hg : B ≤ g) (a b c : Value) : Below B w (((W.setCell ⟨g, 0, none⟩ a).setCell ⟨g, 1, none⟩ b).setCell ⟨g, 2, none⟩ c) :=
 ((h.setCell (p := ⟨g, 0, none⟩) hg a).setCell (p := ⟨g, 1, none⟩) hg b).setCell (p := ⟨g, 2, none⟩) hg c
theorem two_new (w : World) : ∃ W, W = (w.alloc (.cells #[.int .i64 0, .string ⟨#[]⟩, .string ⟨#[]⟩] 50)).alloc (.cells #[.int .i64 0, .string ⟨#[]⟩, .string ⟨#[]⟩] 50) ∧ ResE w.heap.size W ∧ ResE (w.heap.size + 1) W ∧ Below w.heap.size w W ∧ W.heap.size = w.heap.size + 2 := by
 refine ⟨_, rfl, ?_, ?_, ((Below.refl _ _).alloc (Nat.le_refl _) _).alloc (by simp) _, by simp⟩
 ·exact (Below.heap_alloc _ _ _ (by simp)).trans (heap_alloc_new w _)
 ·have := heap_alloc_new (w.alloc (.cells #[.int .i64 0, .string ⟨#[]⟩, .string ⟨#[]⟩] 50)) (.cells #[.int .i64 0, .string ⟨#[]⟩, .string ⟨#[]⟩] 50)
  rw [World.size_alloc] at this
  exact this
set_option maxHeartbeats 1000000 in
theorem least_any (k : Nat) (h1 : 1 ≤ k) (h3 : k ≤ 3) (w : World) : Calls Tryd.prog 52 #[.int .i64 (k : Int)] w fun e w' => e = .returned (.int .i64 (leastB k : Int)) ∧ w = w' := by
  match k, h1, h3 with
  | 1, _, _ =>
    go_enter Tryd.func52, Tryd.ntmps52
    go_wp2_with fail
    go_ret
    exact ⟨rfl, rfl⟩
  | 2, _, _ =>
    go_enter Tryd.func52, Tryd.ntmps52
    go_wp2_with fail
    go_ret
    exact ⟨rfl, rfl⟩
  | 3, _, _ =>
    go_enter Tryd.func52, Tryd.ntmps52
    go_wp2_with fail
    go_ret
    exact ⟨rfl, rfl⟩
theorem bytes_drop (s : ByteArray) (k : Nat) : (s.extract k s.size).data.toList = s.data.toList.drop k := by
 rw [Lib.extract_data, List.take_of_length_le (by simp)]
theorem slice_to {P : Program} (t : TypeId) (ht : P.underlying t = some .string) (s : ByteArray) (j : Nat) (J : Int) (hJ : J = j) (h2 : j ≤ s.size) :
  ∀ W : World, (Instr.slice t (.string s) none (some (.int .i64 J)) none).run P W = .ok (.string (s.extract 0 j)) W := by
 subst hJ
 intro W
 go_simp
theorem slice_from {P : Program} (t : TypeId) (ht : P.underlying t = some .string) (s : ByteArray) (i : Nat) (I : Int) (hI : I = i) (h2 : i ≤ s.size) :
  ∀ W : World, (Instr.slice t (.string s) (some (.int .i64 I)) none none).run P W = .ok (.string (s.extract i s.size)) W := by
 subst hI
 intro W
 go_simp
theorem string_two (s : ByteArray) (h : 2 ≤ s.size) : s.data.toList = s[0] :: s[1] :: s.data.toList.drop 2 := by
 have h0 := drop_string s 0 (by omega)
 have h1 := drop_string s 1 (by omega)
 rw [List.drop_zero] at h0
 exact h0.trans (congrArg (s[0] :: ·) h1)
theorem i64_or_shift8 (a b : Nat) (ha : a ≤ 1099511627776) (hb : b < 256) : bits .or .i64 ((a : Int) * 256) (b : Int) = ((a * 256 + b : Nat) : Int) := by
 have h := i64_or_nat (a * 256) b (by omega) (by omega)
 have e : a * 256 ||| b = a * 256 + b := by
  have := Nat.shiftLeft_add_eq_or_of_lt (i := 8) (show b < 2 ^ 8 by omega) a
  rw [Nat.shiftLeft_eq] at this
  exact this.symm
 rw [e] at h
 rw [← h]
 rfl
theorem beB_snoc (l : List UInt8) (c : UInt8) : beB (l ++ [c]) = beB l * 256 + c.toNat := by unfold beB; rw [List.foldl_append]; rfl
theorem beB_go : ∀ (l : List UInt8) (n : Nat), l.foldl (fun n c => n * 256 + c.toNat) n < (n + 1) * 256 ^ l.length
  | [], n => by simp
  | c :: r, n => by
    have h := beB_go r (n * 256 + c.toNat)
    have hc := c.toNat_lt
    rw [List.foldl_cons, List.length_cons, Nat.pow_succ]
    refine Nat.lt_of_lt_of_le h ?_
    have h2 : n * 256 + c.toNat + 1 ≤ (n + 1) * 256 := by omega
    have := Nat.mul_le_mul_right (256 ^ r.length) h2
    rw [Nat.mul_assoc, Nat.mul_comm 256] at this
    exact this
theorem beB_lt (l : List UInt8) : beB l < 256 ^ l.length := by
 have := beB_go l 0
 simpa [beB] using this
theorem beB_le {l : List UInt8} (h : l.length ≤ 3) : beB l < 16777216 := by
 have h1 := beB_lt l
 have := Nat.pow_le_pow_right (n := 256) (by omega) h
 omega
theorem least_v (k : Nat) (h1 : 1 ≤ k) (h3 : k ≤ 3) (m : Int) (hm : (leastB k : Int) = m) (w : World) : Calls Tryd.prog 52 #[.int .i64 (k : Int)] w fun e w' => e = .returned (.int .i64 m) ∧ w = w' := hm ▸ least_any k h1 h3 w
set_option maxRecDepth 100000 in
set_option maxHeartbeats 8000000 in
theorem Read_any (s : ByteArray) (hs : s.size ≤ 1000000000) (w : World) :
  Calls Tryd.prog 39 #[.string s] w fun e w' => e = .returned (readR (readF s.data.toList)) ∧ Below w.heap.size w w' := by
 obtain ⟨r, hr⟩ : ∃ r, readF s.data.toList = r := ⟨_, rfl⟩
 rw [hr]
 have HR := hide hr
 clear hr
 obtain ⟨W, hW, hr0, hr1, hb0, hsz0⟩ := two_new w
 have HR0 := hide hr0
 have HR1 := hide hr1
 have HB0 := hide hb0
 have HSZ := hide hsz0
 clear hr0 hr1 hb0 hsz0
 go_enter Tryd.func39, Tryd.ntmps39
 go_upto_region 2 with fail
 rw [← hW]
 clear hW
 by_cases h0 : s.size = 0
 ·have hem : s.toList = [] := by rw [ByteArray.toList_eq]; exact List.eq_nil_of_length_eq_zero (by rw [size_string]; omega)
  have hl : s.data.toList = [] := by rw [← ByteArray.toList_eq]; exact hem
  have HN := hide (show r = .error 3 by rw [← HR.out, hl]; rfl)
  obtain ⟨r0, r1, r2, f0, f1, f2⟩ := HR0.out.facts
  obtain ⟨n0, n1, n2, -, -, -⟩ := HR1.out.facts
  go_wp2_with fail
  obtain ⟨q0, q1, q2⟩ := HR0.out.store (.int .i64 0) (.string ⟨#[]⟩) (.string ⟨#[]⟩)
  have hbz := below_store3' HB0.out (Nat.le_refl w.heap.size) (.int .i64 0) (.string ⟨#[]⟩) (.string ⟨#[]⟩)
  obtain ⟨W3, hW3⟩ : ∃ W3, W3 = ((W.setCell ⟨w.heap.size, 0, none⟩ (.int .i64 0)).setCell ⟨w.heap.size, 1, none⟩ (.string ⟨#[]⟩)).setCell ⟨w.heap.size, 2, none⟩ (.string ⟨#[]⟩) := ⟨_, rfl⟩
  rw [← hW3] at q0 q1 q2 hbz ⊢
  exact bodyPost_ret (v := .tuple #[.agg #[(.int .i64 0), (.string ⟨#[]⟩), (.string ⟨#[]⟩)], .string ⟨#[]⟩, .int .i64 3]) (by simp [results, Tryd.results39, go_sem, q0, q1, q2]) rfl ⟨by rw [HN.out]; rfl, hbz⟩
 ·have hp : 0 < s.size := by omega
  have hpi : (0 : Int) < (s.size : Int) := by omega
  have hem : ¬ s.toList = [] := by rw [ByteArray.toList_eq]; intro e; have := size_string s; rw [e] at this; simp at this; omega
  have hem1 : (s.toList == []) = false := by simpa using hem
  have hem2 : s.toList.isEmpty = false := by simpa using hem
  have hd0 := drop_string s 0 hp
  rw [List.drop_zero] at hd0
  obtain ⟨t, ht⟩ : ∃ t, s[0] = t := ⟨_, rfl⟩
  rw [ht] at hd0
  have htb := byte_lt t
  have b31 := and31 t.toNat t.toNat_lt
  obtain ⟨m, hm⟩ : ∃ m, t.toNat % 32 = m := ⟨_, rfl⟩
  rw [hm] at b31
  have HM := hide hm
  have HD := hide hd0
  clear hem hm hd0 h0
  by_cases h31 : m = 31
  ·have t31 : ((m : Int) == 31) = true := by rw [h31]; rfl
   have HE := hide (show r = .error 5 by
    rw [← HR.out, HD.out]
    cases s.data.toList.drop (0 + 1) with
    | nil => rw [readF, if_pos (by rw [HM.out, h31])]
    | cons a b => rw [readF, if_pos (by rw [HM.out, h31])])
   clear h31
   have HN := hide (show r = .error 5 by exact HE.out)
   obtain ⟨r0, r1, r2, f0, f1, f2⟩ := HR0.out.facts
   obtain ⟨n0, n1, n2, -, -, -⟩ := HR1.out.facts
   go_wp2_with fail
   obtain ⟨q0, q1, q2⟩ := HR0.out.store (.int .i64 0) (.string ⟨#[]⟩) (.string ⟨#[]⟩)
   have hbz := below_store3' HB0.out (Nat.le_refl w.heap.size) (.int .i64 0) (.string ⟨#[]⟩) (.string ⟨#[]⟩)
   obtain ⟨W3, hW3⟩ : ∃ W3, W3 = ((W.setCell ⟨w.heap.size, 0, none⟩ (.int .i64 0)).setCell ⟨w.heap.size, 1, none⟩ (.string ⟨#[]⟩)).setCell ⟨w.heap.size, 2, none⟩ (.string ⟨#[]⟩) := ⟨_, rfl⟩
   rw [← hW3] at q0 q1 q2 hbz ⊢
   exact bodyPost_ret (v := .tuple #[.agg #[(.int .i64 0), (.string ⟨#[]⟩), (.string ⟨#[]⟩)], .string ⟨#[]⟩, .int .i64 5]) (by simp [results, Tryd.results39, go_sem, q0, q1, q2]) rfl ⟨by rw [HN.out]; rfl, hbz⟩
  ·have t31 : ((m : Int) == 31) = false := beq_false_of_ne (by omega)
   have H31 := hide h31
   clear h31
   by_cases h1 : s.size = 1
   ·have hlt : (s.size : Int) < 2 := by omega
    have HE := hide (show r = .error 3 by
     rw [← HR.out, HD.out, drop_string_end s (0 + 1) (by omega), readF, if_neg (by rw [HM.out]; exact H31.out)])
    clear h1
    have HN := hide (show r = .error 3 by exact HE.out)
    obtain ⟨r0, r1, r2, f0, f1, f2⟩ := HR0.out.facts
    obtain ⟨n0, n1, n2, -, -, -⟩ := HR1.out.facts
    go_wp2_with fail
    obtain ⟨q0, q1, q2⟩ := HR0.out.store (.int .i64 0) (.string ⟨#[]⟩) (.string ⟨#[]⟩)
    have hbz := below_store3' HB0.out (Nat.le_refl w.heap.size) (.int .i64 0) (.string ⟨#[]⟩) (.string ⟨#[]⟩)
    obtain ⟨W3, hW3⟩ : ∃ W3, W3 = ((W.setCell ⟨w.heap.size, 0, none⟩ (.int .i64 0)).setCell ⟨w.heap.size, 1, none⟩ (.string ⟨#[]⟩)).setCell ⟨w.heap.size, 2, none⟩ (.string ⟨#[]⟩) := ⟨_, rfl⟩
    rw [← hW3] at q0 q1 q2 hbz ⊢
    exact bodyPost_ret (v := .tuple #[.agg #[(.int .i64 0), (.string ⟨#[]⟩), (.string ⟨#[]⟩)], .string ⟨#[]⟩, .int .i64 3]) (by simp [results, Tryd.results39, go_sem, q0, q1, q2]) rfl ⟨by rw [HN.out]; rfl, hbz⟩
   ·have h2 : 2 ≤ s.size := by omega
    have hlt : ¬ (s.size : Int) < 2 := by omega
    have hst := string_two s h2
    obtain ⟨n, hn⟩ : ∃ n, s[1] = n := ⟨_, rfl⟩
    rw [hn, ht] at hst
    have hnb := byte_lt n
    have HX := hide (show r = _ from HR.out.symm.trans ((congrArg readF hst).trans (readF.eq_3 t n (s.data.toList.drop 2) |>.trans (if_neg (by rw [HM.out]; exact H31.out)))))
    have HS := hide hst
    have h1i : (1 : Int) < (s.size : Int) := by omega
    clear h1 hst
    by_cases hbad : n.toNat = 128 ∨ 131 < n.toNat
    ·have HE := hide (HX.out.trans (if_pos hbad))
     rcases hbad with h128 | h131
     ·have e1 : ((n.toNat : Int) == 128) = true := by rw [h128]; rfl
      clear h128
      have HN := hide (show r = .error 6 by exact HE.out)
      obtain ⟨r0, r1, r2, f0, f1, f2⟩ := HR0.out.facts
      obtain ⟨n0, n1, n2, -, -, -⟩ := HR1.out.facts
      go_wp2_with fail
      obtain ⟨q0, q1, q2⟩ := HR0.out.store (.int .i64 0) (.string ⟨#[]⟩) (.string ⟨#[]⟩)
      have hbz := below_store3' HB0.out (Nat.le_refl w.heap.size) (.int .i64 0) (.string ⟨#[]⟩) (.string ⟨#[]⟩)
      obtain ⟨W3, hW3⟩ : ∃ W3, W3 = ((W.setCell ⟨w.heap.size, 0, none⟩ (.int .i64 0)).setCell ⟨w.heap.size, 1, none⟩ (.string ⟨#[]⟩)).setCell ⟨w.heap.size, 2, none⟩ (.string ⟨#[]⟩) := ⟨_, rfl⟩
      rw [← hW3] at q0 q1 q2 hbz ⊢
      exact bodyPost_ret (v := .tuple #[.agg #[(.int .i64 0), (.string ⟨#[]⟩), (.string ⟨#[]⟩)], .string ⟨#[]⟩, .int .i64 6]) (by simp [results, Tryd.results39, go_sem, q0, q1, q2]) rfl ⟨by rw [HN.out]; rfl, hbz⟩
     ·have e1 : ((n.toNat : Int) == 128) = false := beq_false_of_ne (by omega)
      have e2 : (131 : Int) < (n.toNat : Int) := by omega
      clear h131
      have HN := hide (show r = .error 6 by exact HE.out)
      obtain ⟨r0, r1, r2, f0, f1, f2⟩ := HR0.out.facts
      obtain ⟨n0, n1, n2, -, -, -⟩ := HR1.out.facts
      go_wp2_with fail
      obtain ⟨q0, q1, q2⟩ := HR0.out.store (.int .i64 0) (.string ⟨#[]⟩) (.string ⟨#[]⟩)
      have hbz := below_store3' HB0.out (Nat.le_refl w.heap.size) (.int .i64 0) (.string ⟨#[]⟩) (.string ⟨#[]⟩)
      obtain ⟨W3, hW3⟩ : ∃ W3, W3 = ((W.setCell ⟨w.heap.size, 0, none⟩ (.int .i64 0)).setCell ⟨w.heap.size, 1, none⟩ (.string ⟨#[]⟩)).setCell ⟨w.heap.size, 2, none⟩ (.string ⟨#[]⟩) := ⟨_, rfl⟩
      rw [← hW3] at q0 q1 q2 hbz ⊢
      exact bodyPost_ret (v := .tuple #[.agg #[(.int .i64 0), (.string ⟨#[]⟩), (.string ⟨#[]⟩)], .string ⟨#[]⟩, .int .i64 6]) (by simp [results, Tryd.results39, go_sem, q0, q1, q2]) rfl ⟨by rw [HN.out]; rfl, hbz⟩
    ·have HX2 := hide (HX.out.trans (if_neg hbad))
     have e1 : ((n.toNat : Int) == 128) = false := beq_false_of_ne (by omega)
     have e2 : ¬ (131 : Int) < (n.toNat : Int) := by omega
     by_cases hsm : n.toNat < 128
     ·have HX3 := hide (HX2.out.trans (if_pos hsm))
      obtain ⟨N, hN⟩ : ∃ N, n.toNat = N := ⟨_, rfl⟩
      rw [hN] at e1 e2 hnb HX3
      have e3 : ¬ (128 : Int) < (N : Int) := by omega
      have hN3 : (N : Int) < 128 := by omega
      clear hbad hsm
      by_cases hc : s.size - 2 < N
      ·have hci : (s.size : Int) - 2 < (N : Int) := by omega
       have HE := hide (show r = .error 3 by rw [HX3.out, ← HS.out, cutE, cutB, if_pos (by rw [size_string]; exact hc)])
       clear hc
       have HN := hide (show r = .error 3 by exact HE.out)
       obtain ⟨r0, r1, r2, f0, f1, f2⟩ := HR0.out.facts
       obtain ⟨n0, n1, n2, -, -, -⟩ := HR1.out.facts
       go_wp2_with fail
       obtain ⟨q0, q1, q2⟩ := HR0.out.store (.int .i64 0) (.string ⟨#[]⟩) (.string ⟨#[]⟩)
       have hbz := below_store3' HB0.out (Nat.le_refl w.heap.size) (.int .i64 0) (.string ⟨#[]⟩) (.string ⟨#[]⟩)
       obtain ⟨W3, hW3⟩ : ∃ W3, W3 = ((W.setCell ⟨w.heap.size, 0, none⟩ (.int .i64 0)).setCell ⟨w.heap.size, 1, none⟩ (.string ⟨#[]⟩)).setCell ⟨w.heap.size, 2, none⟩ (.string ⟨#[]⟩) := ⟨_, rfl⟩
       rw [← hW3] at q0 q1 q2 hbz ⊢
       exact bodyPost_ret (v := .tuple #[.agg #[(.int .i64 0), (.string ⟨#[]⟩), (.string ⟨#[]⟩)], .string ⟨#[]⟩, .int .i64 3]) (by simp [results, Tryd.results39, go_sem, q0, q1, q2]) rfl ⟨by rw [HN.out]; rfl, hbz⟩
      ·have hci : ¬ (s.size : Int) - 2 < (N : Int) := by omega
       have hw1 : IntKind.i64.wrap (2 + (N : Int)) = 2 + (N : Int) := IntWalk.i64_in _ (by omega)
       have hle : 2 + N ≤ s.size := by omega
       have hs1 := slice_str (P := Tryd.prog) 9 Tryd.underlying9 s 2 (2 + N) 2 (2 + (N : Int)) rfl (by omega) (by omega) hle
       have hs2 := slice_to (P := Tryd.prog) 9 Tryd.underlying9 s (2 + N) (2 + (N : Int)) (by omega) hle
       have hs3 := slice_from (P := Tryd.prog) 9 Tryd.underlying9 s (2 + N) (2 + (N : Int)) (by omega) hle
       obtain ⟨x1, hx1⟩ : ∃ x, s.extract 2 (2 + N) = x := ⟨_, rfl⟩
       obtain ⟨x2, hx2⟩ : ∃ x, s.extract 0 (2 + N) = x := ⟨_, rfl⟩
       obtain ⟨x3, hx3⟩ : ∃ x, s.extract (2 + N) s.size = x := ⟨_, rfl⟩
       rw [hx1] at hs1
       rw [hx2] at hs2
       rw [hx3] at hs3
       have HN := hide (show r = .ok ((t.toNat, x1.data.toList, x2.data.toList), x3.data.toList) by
        rw [HX3.out, ← HS.out, cutE, cutB, if_neg (by rw [size_string]; omega), ← hx1, ← hx2, ← hx3, Lib.extract_data, Lib.extract_data, bytes_drop]
        simp only [Nat.add_sub_cancel_left, Nat.sub_zero, List.drop_zero])
       clear hx1 hx2 hx3 hle hnb
       obtain ⟨r0, r1, r2, f0, f1, f2⟩ := HR0.out.facts
       go_upto_region 27 with fail
       go_region
       all_goals
        go_wp2_with fail
        obtain ⟨q0, q1, q2⟩ := HR0.out.store (.int .i64 (t.toNat : Int)) (.string x1) (.string x2)
        have hbz := below_store3' HB0.out (Nat.le_refl w.heap.size) (.int .i64 (t.toNat : Int)) (.string x1) (.string x2)
        obtain ⟨W3, hW3⟩ : ∃ W3, W3 = (((W.setCell ⟨w.heap.size, 0, none⟩ (.int .i64 (t.toNat : Int))).setCell ⟨w.heap.size, 1, none⟩ (.string x1)).setCell ⟨w.heap.size, 2, none⟩ (.string x2)) := ⟨_, rfl⟩
        rw [← hW3] at q0 q1 q2 hbz ⊢
        have q0' : W3.drew.cell? ⟨w.heap.size, 0, none⟩ = some (.int .i64 (t.toNat : Int)) := q0
        have q1' : W3.drew.cell? ⟨w.heap.size, 1, none⟩ = some (.string x1) := q1
        have q2' : W3.drew.cell? ⟨w.heap.size, 2, none⟩ = some (.string x2) := q2
        exact bodyPost_ret (v := .tuple #[.agg #[.int .i64 (t.toNat : Int), .string x1, .string x2], .string x3, .int .i64 0]) (by simp [results, Tryd.results39, go_sem, q0', q1', q2']) rfl ⟨by rw [HN.out]; rfl, hbz.drew⟩
     ·have hk : n.toNat = 129 ∨ n.toNat = 130 ∨ n.toNat = 131 := by omega
      rcases hk with hk | hk | hk
      ·have hNi : (n.toNat : Int) = 129 := by omega
       have hbn : ¬ n.toNat < 128 := by omega
       have HX3 := hide (HX2.out.trans (if_neg hbn))
       have hql : (s.data.toList.drop 2).length = s.size - 2 := by rw [List.length_drop, size_string]
       have hk9 : n.toNat - 128 = 1 := by omega
       rw [hk9, hql] at HX3
       have HK9 := hide hk9
       clear hbad hsm e1 e2 hnb hbn hk hk9
       by_cases hq : s.size - 2 < 1
       ·have HE := hide (HX3.out.trans (if_pos hq))
        have hlt3 : (s.size : Int) < 3 := by omega
        clear hq hql
        have HN := hide (show r = .error 3 by exact HE.out)
        obtain ⟨r0, r1, r2, f0, f1, f2⟩ := HR0.out.facts
        obtain ⟨n0, n1, n2, -, -, -⟩ := HR1.out.facts
        go_wp2_with fail
        obtain ⟨q0, q1, q2⟩ := HR0.out.store (.int .i64 0) (.string ⟨#[]⟩) (.string ⟨#[]⟩)
        have hbz := below_store3' HB0.out (Nat.le_refl w.heap.size) (.int .i64 0) (.string ⟨#[]⟩) (.string ⟨#[]⟩)
        obtain ⟨W3, hW3⟩ : ∃ W3, W3 = ((W.setCell ⟨w.heap.size, 0, none⟩ (.int .i64 0)).setCell ⟨w.heap.size, 1, none⟩ (.string ⟨#[]⟩)).setCell ⟨w.heap.size, 2, none⟩ (.string ⟨#[]⟩) := ⟨_, rfl⟩
        rw [← hW3] at q0 q1 q2 hbz ⊢
        exact bodyPost_ret (v := .tuple #[.agg #[(.int .i64 0), (.string ⟨#[]⟩), (.string ⟨#[]⟩)], .string ⟨#[]⟩, .int .i64 3]) (by simp [results, Tryd.results39, go_sem, q0, q1, q2]) rfl ⟨by rw [HN.out]; rfl, hbz⟩
       ·have HX4 := hide (HX3.out.trans (if_neg hq))
        have hlt3 : ¬ (s.size : Int) < 3 := by omega
        obtain ⟨l, hl⟩ : ∃ l, (s.data.toList.drop 2).take 1 = l := ⟨_, rfl⟩
        rw [hl] at HX4
        have hll : l.length = 1 := by rw [← hl, List.length_take, hql]; omega
        have hsl := slice_str (P := Tryd.prog) 9 Tryd.underlying9 s 2 3 2 3 rfl rfl (by omega) (by omega)
        obtain ⟨x, hx⟩ : ∃ x, s.extract 2 3 = x := ⟨_, rfl⟩
        have HL := hide (show x.data.toList = l by rw [← hx, Lib.extract_data, ← hl])
        rw [hx] at hsl
        have hml : l.length ≤ maxLen := by rw [hll]; decide
        have HLL := hide hll
        clear hq hql hl hx hll
        go_wp2_with (with_reducible refine wpList_str_bts _ rfl (.tmp 49) 9 43 5 rfl Tryd.underlying9 Tryd.underlying43 Tryd.underlying5 x rfl l HL.out hml ?_; intro g c w1 hg1 hg2 hb1 hby hc1 hc2)
        rw [HLL.out] at hc1 ⊢
        go_loopw [7, 52] (fun v i wr => w1 = wr ∧ ∃ j : Nat, j ≤ 1 ∧ i = .int .i64 j ∧ v = .int .i64 (beB (l.take j) : Nat)) (fun _ i _ => 1 - (intOf i).toNat)
        case atStart => exact ⟨rfl, 0, by omega, rfl, rfl⟩
        case round =>
         obtain ⟨rfl, j, hj, rfl, rfl⟩ := hrel
         have HR0 := hide (HR0.out.below hb1)
         have HR1 := hide (HR1.out.below hb1)
         have HB0 := hide (HB0.out.trans (hb1.mono HB0.out.size))
         by_cases hlt : j < 1
         ·have hjl : j < l.length := by rw [HLL.out]; exact hlt
          have hcell := hby.cell hjl
          have hsn := beB_snoc (l.take j) l[j]
          rw [← List.take_succ_eq_append_getElem hjl] at hsn
          have hbl := beB_le (l := l.take j) (by rw [List.length_take]; omega)
          obtain ⟨c1, hc1'⟩ : ∃ c1, l[j] = c1 := ⟨_, rfl⟩
          rw [hc1'] at hcell hsn
          obtain ⟨v, hv⟩ : ∃ v, beB (l.take j) = v := ⟨_, rfl⟩
          rw [hv] at hsn hbl ⊢
          have hor := i64_or_shift8 v c1.toNat (by omega) c1.toNat_lt
          have HSN := hide hsn
          have hcb := byte_lt c1
          clear hc1' hv hsn hb1 hby
          go_wp2_with fail
          go_roundw
          case rel => exact ⟨trivial, j + 1, by omega, by go_num, by rw [HSN.out]; go_num⟩
          case measure => simp [intOf]; omega
         ·have hjk : j = 1 := by omega
          have hvv : beB (l.take j) = beB l := by rw [List.take_of_length_le (by rw [HLL.out]; omega)]
          rw [hvv]
          obtain ⟨N, hN⟩ : ∃ N, beB l = N := ⟨_, rfl⟩
          rw [hN] at HX4 ⊢
          have hNb := beB_le (l := l) (by rw [HLL.out]; decide)
          rw [hN] at hNb
          clear hb1 hby hvv hN
          go_wp2_with fail
          refine (least_v 1 (by omega) (by omega) 128 rfl _).mono ?_
          rintro e w2 ⟨rfl, rfl⟩
          by_cases hbad : N < 128 ∨ 131072 < N
          ·have HE := hide (HX4.out.trans (if_pos (show N < leastB 1 ∨ 131072 < N from hbad)))
           rcases hbad with hbad | hbad
           ·have e1 : (N : Int) < 128 := by omega
            clear hbad
            have HN := hide (show r = .error 6 by exact HE.out)
            obtain ⟨r0, r1, r2, f0, f1, f2⟩ := HR0.out.facts
            obtain ⟨n0, n1, n2, -, -, -⟩ := HR1.out.facts
            go_wp2_with fail
            obtain ⟨q0, q1, q2⟩ := HR0.out.store (.int .i64 0) (.string ⟨#[]⟩) (.string ⟨#[]⟩)
            have hbz := below_store3' HB0.out (Nat.le_refl w.heap.size) (.int .i64 0) (.string ⟨#[]⟩) (.string ⟨#[]⟩)
            obtain ⟨W3, hW3⟩ : ∃ W3, W3 = ((w1.setCell ⟨w.heap.size, 0, none⟩ (.int .i64 0)).setCell ⟨w.heap.size, 1, none⟩ (.string ⟨#[]⟩)).setCell ⟨w.heap.size, 2, none⟩ (.string ⟨#[]⟩) := ⟨_, rfl⟩
            rw [← hW3] at q0 q1 q2 hbz ⊢
            exact bodyPost_ret (v := .tuple #[.agg #[(.int .i64 0), (.string ⟨#[]⟩), (.string ⟨#[]⟩)], .string ⟨#[]⟩, .int .i64 6]) (by simp [results, Tryd.results39, go_sem, q0, q1, q2]) rfl ⟨by rw [HN.out]; rfl, hbz⟩
           ·have e1 : ¬ (N : Int) < 128 := by omega
            have e2 : (131072 : Int) < (N : Int) := by omega
            clear hbad
            have HN := hide (show r = .error 6 by exact HE.out)
            obtain ⟨r0, r1, r2, f0, f1, f2⟩ := HR0.out.facts
            obtain ⟨n0, n1, n2, -, -, -⟩ := HR1.out.facts
            go_wp2_with fail
            obtain ⟨q0, q1, q2⟩ := HR0.out.store (.int .i64 0) (.string ⟨#[]⟩) (.string ⟨#[]⟩)
            have hbz := below_store3' HB0.out (Nat.le_refl w.heap.size) (.int .i64 0) (.string ⟨#[]⟩) (.string ⟨#[]⟩)
            obtain ⟨W3, hW3⟩ : ∃ W3, W3 = ((w1.setCell ⟨w.heap.size, 0, none⟩ (.int .i64 0)).setCell ⟨w.heap.size, 1, none⟩ (.string ⟨#[]⟩)).setCell ⟨w.heap.size, 2, none⟩ (.string ⟨#[]⟩) := ⟨_, rfl⟩
            rw [← hW3] at q0 q1 q2 hbz ⊢
            exact bodyPost_ret (v := .tuple #[.agg #[(.int .i64 0), (.string ⟨#[]⟩), (.string ⟨#[]⟩)], .string ⟨#[]⟩, .int .i64 6]) (by simp [results, Tryd.results39, go_sem, q0, q1, q2]) rfl ⟨by rw [HN.out]; rfl, hbz⟩
          ·have HX5 := hide (HX4.out.trans (if_neg (show ¬ (N < leastB 1 ∨ 131072 < N) from hbad)))
           have e1 : ¬ (N : Int) < 128 := by omega
           have e2 : ¬ (131072 : Int) < (N : Int) := by omega
           clear hbad
           by_cases hc : s.size - 3 < N
           ·have hci : (s.size : Int) - 3 < (N : Int) := by omega
            have HE := hide (show r = .error 3 by rw [HX5.out, ← HS.out, cutE, cutB, if_pos (by rw [size_string]; exact hc)])
            clear hc
            have HN := hide (show r = .error 3 by exact HE.out)
            obtain ⟨r0, r1, r2, f0, f1, f2⟩ := HR0.out.facts
            obtain ⟨n0, n1, n2, -, -, -⟩ := HR1.out.facts
            go_wp2_with fail
            obtain ⟨q0, q1, q2⟩ := HR0.out.store (.int .i64 0) (.string ⟨#[]⟩) (.string ⟨#[]⟩)
            have hbz := below_store3' HB0.out (Nat.le_refl w.heap.size) (.int .i64 0) (.string ⟨#[]⟩) (.string ⟨#[]⟩)
            obtain ⟨W3, hW3⟩ : ∃ W3, W3 = ((w1.setCell ⟨w.heap.size, 0, none⟩ (.int .i64 0)).setCell ⟨w.heap.size, 1, none⟩ (.string ⟨#[]⟩)).setCell ⟨w.heap.size, 2, none⟩ (.string ⟨#[]⟩) := ⟨_, rfl⟩
            rw [← hW3] at q0 q1 q2 hbz ⊢
            exact bodyPost_ret (v := .tuple #[.agg #[(.int .i64 0), (.string ⟨#[]⟩), (.string ⟨#[]⟩)], .string ⟨#[]⟩, .int .i64 3]) (by simp [results, Tryd.results39, go_sem, q0, q1, q2]) rfl ⟨by rw [HN.out]; rfl, hbz⟩
           ·have hci : ¬ (s.size : Int) - 3 < (N : Int) := by omega
            have hnb : (0 : Int) ≤ 0 := by omega
            have hw1 : IntKind.i64.wrap (3 + (N : Int)) = 3 + (N : Int) := IntWalk.i64_in _ (by omega)
            have hle : 3 + N ≤ s.size := by omega
            have hs1 := slice_str (P := Tryd.prog) 9 Tryd.underlying9 s 3 (3 + N) 3 (3 + (N : Int)) rfl (by omega) (by omega) hle
            have hs2 := slice_to (P := Tryd.prog) 9 Tryd.underlying9 s (3 + N) (3 + (N : Int)) (by omega) hle
            have hs3 := slice_from (P := Tryd.prog) 9 Tryd.underlying9 s (3 + N) (3 + (N : Int)) (by omega) hle
            obtain ⟨x1, hx1⟩ : ∃ x, s.extract 3 (3 + N) = x := ⟨_, rfl⟩
            obtain ⟨x2, hx2⟩ : ∃ x, s.extract 0 (3 + N) = x := ⟨_, rfl⟩
            obtain ⟨x3, hx3⟩ : ∃ x, s.extract (3 + N) s.size = x := ⟨_, rfl⟩
            rw [hx1] at hs1
            rw [hx2] at hs2
            rw [hx3] at hs3
            have HN := hide (show r = .ok ((t.toNat, x1.data.toList, x2.data.toList), x3.data.toList) by
             rw [HX5.out, ← HS.out, cutE, cutB, if_neg (by rw [size_string]; omega), ← hx1, ← hx2, ← hx3, Lib.extract_data, Lib.extract_data, bytes_drop]
             simp only [Nat.add_sub_cancel_left, Nat.sub_zero, List.drop_zero])
            clear hx1 hx2 hx3 hle hnb
            obtain ⟨r0, r1, r2, f0, f1, f2⟩ := HR0.out.facts
            go_upto_region 27 with fail
            go_region
            all_goals
             go_wp2_with fail
             obtain ⟨q0, q1, q2⟩ := HR0.out.store (.int .i64 (t.toNat : Int)) (.string x1) (.string x2)
             have hbz := below_store3' HB0.out (Nat.le_refl w.heap.size) (.int .i64 (t.toNat : Int)) (.string x1) (.string x2)
             obtain ⟨W3, hW3⟩ : ∃ W3, W3 = (((w1.setCell ⟨w.heap.size, 0, none⟩ (.int .i64 (t.toNat : Int))).setCell ⟨w.heap.size, 1, none⟩ (.string x1)).setCell ⟨w.heap.size, 2, none⟩ (.string x2)) := ⟨_, rfl⟩
             rw [← hW3] at q0 q1 q2 hbz ⊢
             have q0' : W3.drew.cell? ⟨w.heap.size, 0, none⟩ = some (.int .i64 (t.toNat : Int)) := q0
             have q1' : W3.drew.cell? ⟨w.heap.size, 1, none⟩ = some (.string x1) := q1
             have q2' : W3.drew.cell? ⟨w.heap.size, 2, none⟩ = some (.string x2) := q2
             exact bodyPost_ret (v := .tuple #[.agg #[.int .i64 (t.toNat : Int), .string x1, .string x2], .string x3, .int .i64 0]) (by simp [results, Tryd.results39, go_sem, q0', q1', q2']) rfl ⟨by rw [HN.out]; rfl, hbz.drew⟩
      ·have hNi : (n.toNat : Int) = 130 := by omega
       have hbn : ¬ n.toNat < 128 := by omega
       have HX3 := hide (HX2.out.trans (if_neg hbn))
       have hql : (s.data.toList.drop 2).length = s.size - 2 := by rw [List.length_drop, size_string]
       have hk9 : n.toNat - 128 = 2 := by omega
       rw [hk9, hql] at HX3
       have HK9 := hide hk9
       clear hbad hsm e1 e2 hnb hbn hk hk9
       by_cases hq : s.size - 2 < 2
       ·have HE := hide (HX3.out.trans (if_pos hq))
        have hlt3 : (s.size : Int) < 4 := by omega
        clear hq hql
        have HN := hide (show r = .error 3 by exact HE.out)
        obtain ⟨r0, r1, r2, f0, f1, f2⟩ := HR0.out.facts
        obtain ⟨n0, n1, n2, -, -, -⟩ := HR1.out.facts
        go_wp2_with fail
        obtain ⟨q0, q1, q2⟩ := HR0.out.store (.int .i64 0) (.string ⟨#[]⟩) (.string ⟨#[]⟩)
        have hbz := below_store3' HB0.out (Nat.le_refl w.heap.size) (.int .i64 0) (.string ⟨#[]⟩) (.string ⟨#[]⟩)
        obtain ⟨W3, hW3⟩ : ∃ W3, W3 = ((W.setCell ⟨w.heap.size, 0, none⟩ (.int .i64 0)).setCell ⟨w.heap.size, 1, none⟩ (.string ⟨#[]⟩)).setCell ⟨w.heap.size, 2, none⟩ (.string ⟨#[]⟩) := ⟨_, rfl⟩
        rw [← hW3] at q0 q1 q2 hbz ⊢
        exact bodyPost_ret (v := .tuple #[.agg #[(.int .i64 0), (.string ⟨#[]⟩), (.string ⟨#[]⟩)], .string ⟨#[]⟩, .int .i64 3]) (by simp [results, Tryd.results39, go_sem, q0, q1, q2]) rfl ⟨by rw [HN.out]; rfl, hbz⟩
       ·have HX4 := hide (HX3.out.trans (if_neg hq))
        have hlt3 : ¬ (s.size : Int) < 4 := by omega
        obtain ⟨l, hl⟩ : ∃ l, (s.data.toList.drop 2).take 2 = l := ⟨_, rfl⟩
        rw [hl] at HX4
        have hll : l.length = 2 := by rw [← hl, List.length_take, hql]; omega
        have hsl := slice_str (P := Tryd.prog) 9 Tryd.underlying9 s 2 4 2 4 rfl rfl (by omega) (by omega)
        obtain ⟨x, hx⟩ : ∃ x, s.extract 2 4 = x := ⟨_, rfl⟩
        have HL := hide (show x.data.toList = l by rw [← hx, Lib.extract_data, ← hl])
        rw [hx] at hsl
        have hml : l.length ≤ maxLen := by rw [hll]; decide
        have HLL := hide hll
        clear hq hql hl hx hll
        go_wp2_with (with_reducible refine wpList_str_bts _ rfl (.tmp 49) 9 43 5 rfl Tryd.underlying9 Tryd.underlying43 Tryd.underlying5 x rfl l HL.out hml ?_; intro g c w1 hg1 hg2 hb1 hby hc1 hc2)
        rw [HLL.out] at hc1 ⊢
        go_loopw [7, 52] (fun v i wr => w1 = wr ∧ ∃ j : Nat, j ≤ 2 ∧ i = .int .i64 j ∧ v = .int .i64 (beB (l.take j) : Nat)) (fun _ i _ => 2 - (intOf i).toNat)
        case atStart => exact ⟨rfl, 0, by omega, rfl, rfl⟩
        case round =>
         obtain ⟨rfl, j, hj, rfl, rfl⟩ := hrel
         have HR0 := hide (HR0.out.below hb1)
         have HR1 := hide (HR1.out.below hb1)
         have HB0 := hide (HB0.out.trans (hb1.mono HB0.out.size))
         by_cases hlt : j < 2
         ·have hjl : j < l.length := by rw [HLL.out]; exact hlt
          have hcell := hby.cell hjl
          have hsn := beB_snoc (l.take j) l[j]
          rw [← List.take_succ_eq_append_getElem hjl] at hsn
          have hbl := beB_le (l := l.take j) (by rw [List.length_take]; omega)
          obtain ⟨c1, hc1'⟩ : ∃ c1, l[j] = c1 := ⟨_, rfl⟩
          rw [hc1'] at hcell hsn
          obtain ⟨v, hv⟩ : ∃ v, beB (l.take j) = v := ⟨_, rfl⟩
          rw [hv] at hsn hbl ⊢
          have hor := i64_or_shift8 v c1.toNat (by omega) c1.toNat_lt
          have HSN := hide hsn
          have hcb := byte_lt c1
          clear hc1' hv hsn hb1 hby
          go_wp2_with fail
          go_roundw
          case rel => exact ⟨trivial, j + 1, by omega, by go_num, by rw [HSN.out]; go_num⟩
          case measure => simp [intOf]; omega
         ·have hjk : j = 2 := by omega
          have hvv : beB (l.take j) = beB l := by rw [List.take_of_length_le (by rw [HLL.out]; omega)]
          rw [hvv]
          obtain ⟨N, hN⟩ : ∃ N, beB l = N := ⟨_, rfl⟩
          rw [hN] at HX4 ⊢
          have hNb := beB_le (l := l) (by rw [HLL.out]; decide)
          rw [hN] at hNb
          clear hb1 hby hvv hN
          go_wp2_with fail
          refine (least_v 2 (by omega) (by omega) 256 rfl _).mono ?_
          rintro e w2 ⟨rfl, rfl⟩
          by_cases hbad : N < 256 ∨ 131072 < N
          ·have HE := hide (HX4.out.trans (if_pos (show N < leastB 2 ∨ 131072 < N from hbad)))
           rcases hbad with hbad | hbad
           ·have e1 : (N : Int) < 256 := by omega
            clear hbad
            have HN := hide (show r = .error 6 by exact HE.out)
            obtain ⟨r0, r1, r2, f0, f1, f2⟩ := HR0.out.facts
            obtain ⟨n0, n1, n2, -, -, -⟩ := HR1.out.facts
            go_wp2_with fail
            obtain ⟨q0, q1, q2⟩ := HR0.out.store (.int .i64 0) (.string ⟨#[]⟩) (.string ⟨#[]⟩)
            have hbz := below_store3' HB0.out (Nat.le_refl w.heap.size) (.int .i64 0) (.string ⟨#[]⟩) (.string ⟨#[]⟩)
            obtain ⟨W3, hW3⟩ : ∃ W3, W3 = ((w1.setCell ⟨w.heap.size, 0, none⟩ (.int .i64 0)).setCell ⟨w.heap.size, 1, none⟩ (.string ⟨#[]⟩)).setCell ⟨w.heap.size, 2, none⟩ (.string ⟨#[]⟩) := ⟨_, rfl⟩
            rw [← hW3] at q0 q1 q2 hbz ⊢
            exact bodyPost_ret (v := .tuple #[.agg #[(.int .i64 0), (.string ⟨#[]⟩), (.string ⟨#[]⟩)], .string ⟨#[]⟩, .int .i64 6]) (by simp [results, Tryd.results39, go_sem, q0, q1, q2]) rfl ⟨by rw [HN.out]; rfl, hbz⟩
           ·have e1 : ¬ (N : Int) < 256 := by omega
            have e2 : (131072 : Int) < (N : Int) := by omega
            clear hbad
            have HN := hide (show r = .error 6 by exact HE.out)
            obtain ⟨r0, r1, r2, f0, f1, f2⟩ := HR0.out.facts
            obtain ⟨n0, n1, n2, -, -, -⟩ := HR1.out.facts
            go_wp2_with fail
            obtain ⟨q0, q1, q2⟩ := HR0.out.store (.int .i64 0) (.string ⟨#[]⟩) (.string ⟨#[]⟩)
            have hbz := below_store3' HB0.out (Nat.le_refl w.heap.size) (.int .i64 0) (.string ⟨#[]⟩) (.string ⟨#[]⟩)
            obtain ⟨W3, hW3⟩ : ∃ W3, W3 = ((w1.setCell ⟨w.heap.size, 0, none⟩ (.int .i64 0)).setCell ⟨w.heap.size, 1, none⟩ (.string ⟨#[]⟩)).setCell ⟨w.heap.size, 2, none⟩ (.string ⟨#[]⟩) := ⟨_, rfl⟩
            rw [← hW3] at q0 q1 q2 hbz ⊢
            exact bodyPost_ret (v := .tuple #[.agg #[(.int .i64 0), (.string ⟨#[]⟩), (.string ⟨#[]⟩)], .string ⟨#[]⟩, .int .i64 6]) (by simp [results, Tryd.results39, go_sem, q0, q1, q2]) rfl ⟨by rw [HN.out]; rfl, hbz⟩
          ·have HX5 := hide (HX4.out.trans (if_neg (show ¬ (N < leastB 2 ∨ 131072 < N) from hbad)))
           have e1 : ¬ (N : Int) < 256 := by omega
           have e2 : ¬ (131072 : Int) < (N : Int) := by omega
           clear hbad
           by_cases hc : s.size - 4 < N
           ·have hci : (s.size : Int) - 4 < (N : Int) := by omega
            have HE := hide (show r = .error 3 by rw [HX5.out, ← HS.out, cutE, cutB, if_pos (by rw [size_string]; exact hc)])
            clear hc
            have HN := hide (show r = .error 3 by exact HE.out)
            obtain ⟨r0, r1, r2, f0, f1, f2⟩ := HR0.out.facts
            obtain ⟨n0, n1, n2, -, -, -⟩ := HR1.out.facts
            go_wp2_with fail
            obtain ⟨q0, q1, q2⟩ := HR0.out.store (.int .i64 0) (.string ⟨#[]⟩) (.string ⟨#[]⟩)
            have hbz := below_store3' HB0.out (Nat.le_refl w.heap.size) (.int .i64 0) (.string ⟨#[]⟩) (.string ⟨#[]⟩)
            obtain ⟨W3, hW3⟩ : ∃ W3, W3 = ((w1.setCell ⟨w.heap.size, 0, none⟩ (.int .i64 0)).setCell ⟨w.heap.size, 1, none⟩ (.string ⟨#[]⟩)).setCell ⟨w.heap.size, 2, none⟩ (.string ⟨#[]⟩) := ⟨_, rfl⟩
            rw [← hW3] at q0 q1 q2 hbz ⊢
            exact bodyPost_ret (v := .tuple #[.agg #[(.int .i64 0), (.string ⟨#[]⟩), (.string ⟨#[]⟩)], .string ⟨#[]⟩, .int .i64 3]) (by simp [results, Tryd.results39, go_sem, q0, q1, q2]) rfl ⟨by rw [HN.out]; rfl, hbz⟩
           ·have hci : ¬ (s.size : Int) - 4 < (N : Int) := by omega
            have hnb : (0 : Int) ≤ 0 := by omega
            have hw1 : IntKind.i64.wrap (4 + (N : Int)) = 4 + (N : Int) := IntWalk.i64_in _ (by omega)
            have hle : 4 + N ≤ s.size := by omega
            have hs1 := slice_str (P := Tryd.prog) 9 Tryd.underlying9 s 4 (4 + N) 4 (4 + (N : Int)) rfl (by omega) (by omega) hle
            have hs2 := slice_to (P := Tryd.prog) 9 Tryd.underlying9 s (4 + N) (4 + (N : Int)) (by omega) hle
            have hs3 := slice_from (P := Tryd.prog) 9 Tryd.underlying9 s (4 + N) (4 + (N : Int)) (by omega) hle
            obtain ⟨x1, hx1⟩ : ∃ x, s.extract 4 (4 + N) = x := ⟨_, rfl⟩
            obtain ⟨x2, hx2⟩ : ∃ x, s.extract 0 (4 + N) = x := ⟨_, rfl⟩
            obtain ⟨x3, hx3⟩ : ∃ x, s.extract (4 + N) s.size = x := ⟨_, rfl⟩
            rw [hx1] at hs1
            rw [hx2] at hs2
            rw [hx3] at hs3
            have HN := hide (show r = .ok ((t.toNat, x1.data.toList, x2.data.toList), x3.data.toList) by
             rw [HX5.out, ← HS.out, cutE, cutB, if_neg (by rw [size_string]; omega), ← hx1, ← hx2, ← hx3, Lib.extract_data, Lib.extract_data, bytes_drop]
             simp only [Nat.add_sub_cancel_left, Nat.sub_zero, List.drop_zero])
            clear hx1 hx2 hx3 hle hnb
            obtain ⟨r0, r1, r2, f0, f1, f2⟩ := HR0.out.facts
            go_upto_region 27 with fail
            go_region
            all_goals
             go_wp2_with fail
             obtain ⟨q0, q1, q2⟩ := HR0.out.store (.int .i64 (t.toNat : Int)) (.string x1) (.string x2)
             have hbz := below_store3' HB0.out (Nat.le_refl w.heap.size) (.int .i64 (t.toNat : Int)) (.string x1) (.string x2)
             obtain ⟨W3, hW3⟩ : ∃ W3, W3 = (((w1.setCell ⟨w.heap.size, 0, none⟩ (.int .i64 (t.toNat : Int))).setCell ⟨w.heap.size, 1, none⟩ (.string x1)).setCell ⟨w.heap.size, 2, none⟩ (.string x2)) := ⟨_, rfl⟩
             rw [← hW3] at q0 q1 q2 hbz ⊢
             have q0' : W3.drew.cell? ⟨w.heap.size, 0, none⟩ = some (.int .i64 (t.toNat : Int)) := q0
             have q1' : W3.drew.cell? ⟨w.heap.size, 1, none⟩ = some (.string x1) := q1
             have q2' : W3.drew.cell? ⟨w.heap.size, 2, none⟩ = some (.string x2) := q2
             exact bodyPost_ret (v := .tuple #[.agg #[.int .i64 (t.toNat : Int), .string x1, .string x2], .string x3, .int .i64 0]) (by simp [results, Tryd.results39, go_sem, q0', q1', q2']) rfl ⟨by rw [HN.out]; rfl, hbz.drew⟩
      ·have hNi : (n.toNat : Int) = 131 := by omega
       have hbn : ¬ n.toNat < 128 := by omega
       have HX3 := hide (HX2.out.trans (if_neg hbn))
       have hql : (s.data.toList.drop 2).length = s.size - 2 := by rw [List.length_drop, size_string]
       have hk9 : n.toNat - 128 = 3 := by omega
       rw [hk9, hql] at HX3
       have HK9 := hide hk9
       clear hbad hsm e1 e2 hnb hbn hk hk9
       by_cases hq : s.size - 2 < 3
       ·have HE := hide (HX3.out.trans (if_pos hq))
        have hlt3 : (s.size : Int) < 5 := by omega
        clear hq hql
        have HN := hide (show r = .error 3 by exact HE.out)
        obtain ⟨r0, r1, r2, f0, f1, f2⟩ := HR0.out.facts
        obtain ⟨n0, n1, n2, -, -, -⟩ := HR1.out.facts
        go_wp2_with fail
        obtain ⟨q0, q1, q2⟩ := HR0.out.store (.int .i64 0) (.string ⟨#[]⟩) (.string ⟨#[]⟩)
        have hbz := below_store3' HB0.out (Nat.le_refl w.heap.size) (.int .i64 0) (.string ⟨#[]⟩) (.string ⟨#[]⟩)
        obtain ⟨W3, hW3⟩ : ∃ W3, W3 = ((W.setCell ⟨w.heap.size, 0, none⟩ (.int .i64 0)).setCell ⟨w.heap.size, 1, none⟩ (.string ⟨#[]⟩)).setCell ⟨w.heap.size, 2, none⟩ (.string ⟨#[]⟩) := ⟨_, rfl⟩
        rw [← hW3] at q0 q1 q2 hbz ⊢
        exact bodyPost_ret (v := .tuple #[.agg #[(.int .i64 0), (.string ⟨#[]⟩), (.string ⟨#[]⟩)], .string ⟨#[]⟩, .int .i64 3]) (by simp [results, Tryd.results39, go_sem, q0, q1, q2]) rfl ⟨by rw [HN.out]; rfl, hbz⟩
       ·have HX4 := hide (HX3.out.trans (if_neg hq))
        have hlt3 : ¬ (s.size : Int) < 5 := by omega
        obtain ⟨l, hl⟩ : ∃ l, (s.data.toList.drop 2).take 3 = l := ⟨_, rfl⟩
        rw [hl] at HX4
        have hll : l.length = 3 := by rw [← hl, List.length_take, hql]; omega
        have hsl := slice_str (P := Tryd.prog) 9 Tryd.underlying9 s 2 5 2 5 rfl rfl (by omega) (by omega)
        obtain ⟨x, hx⟩ : ∃ x, s.extract 2 5 = x := ⟨_, rfl⟩
        have HL := hide (show x.data.toList = l by rw [← hx, Lib.extract_data, ← hl])
        rw [hx] at hsl
        have hml : l.length ≤ maxLen := by rw [hll]; decide
        have HLL := hide hll
        clear hq hql hl hx hll
        go_wp2_with (with_reducible refine wpList_str_bts _ rfl (.tmp 49) 9 43 5 rfl Tryd.underlying9 Tryd.underlying43 Tryd.underlying5 x rfl l HL.out hml ?_; intro g c w1 hg1 hg2 hb1 hby hc1 hc2)
        rw [HLL.out] at hc1 ⊢
        go_loopw [7, 52] (fun v i wr => w1 = wr ∧ ∃ j : Nat, j ≤ 3 ∧ i = .int .i64 j ∧ v = .int .i64 (beB (l.take j) : Nat)) (fun _ i _ => 3 - (intOf i).toNat)
        case atStart => exact ⟨rfl, 0, by omega, rfl, rfl⟩
        case round =>
         obtain ⟨rfl, j, hj, rfl, rfl⟩ := hrel
         have HR0 := hide (HR0.out.below hb1)
         have HR1 := hide (HR1.out.below hb1)
         have HB0 := hide (HB0.out.trans (hb1.mono HB0.out.size))
         by_cases hlt : j < 3
         ·have hjl : j < l.length := by rw [HLL.out]; exact hlt
          have hcell := hby.cell hjl
          have hsn := beB_snoc (l.take j) l[j]
          rw [← List.take_succ_eq_append_getElem hjl] at hsn
          have hbl := beB_le (l := l.take j) (by rw [List.length_take]; omega)
          obtain ⟨c1, hc1'⟩ : ∃ c1, l[j] = c1 := ⟨_, rfl⟩
          rw [hc1'] at hcell hsn
          obtain ⟨v, hv⟩ : ∃ v, beB (l.take j) = v := ⟨_, rfl⟩
          rw [hv] at hsn hbl ⊢
          have hor := i64_or_shift8 v c1.toNat (by omega) c1.toNat_lt
          have HSN := hide hsn
          have hcb := byte_lt c1
          clear hc1' hv hsn hb1 hby
          go_wp2_with fail
          go_roundw
          case rel => exact ⟨trivial, j + 1, by omega, by go_num, by rw [HSN.out]; go_num⟩
          case measure => simp [intOf]; omega
         ·have hjk : j = 3 := by omega
          have hvv : beB (l.take j) = beB l := by rw [List.take_of_length_le (by rw [HLL.out]; omega)]
          rw [hvv]
          obtain ⟨N, hN⟩ : ∃ N, beB l = N := ⟨_, rfl⟩
          rw [hN] at HX4 ⊢
          have hNb := beB_le (l := l) (by rw [HLL.out]; decide)
          rw [hN] at hNb
          clear hb1 hby hvv hN
          go_wp2_with fail
          refine (least_v 3 (by omega) (by omega) 65536 rfl _).mono ?_
          rintro e w2 ⟨rfl, rfl⟩
          by_cases hbad : N < 65536 ∨ 131072 < N
          ·have HE := hide (HX4.out.trans (if_pos (show N < leastB 3 ∨ 131072 < N from hbad)))
           rcases hbad with hbad | hbad
           ·have e1 : (N : Int) < 65536 := by omega
            clear hbad
            have HN := hide (show r = .error 6 by exact HE.out)
            obtain ⟨r0, r1, r2, f0, f1, f2⟩ := HR0.out.facts
            obtain ⟨n0, n1, n2, -, -, -⟩ := HR1.out.facts
            go_wp2_with fail
            obtain ⟨q0, q1, q2⟩ := HR0.out.store (.int .i64 0) (.string ⟨#[]⟩) (.string ⟨#[]⟩)
            have hbz := below_store3' HB0.out (Nat.le_refl w.heap.size) (.int .i64 0) (.string ⟨#[]⟩) (.string ⟨#[]⟩)
            obtain ⟨W3, hW3⟩ : ∃ W3, W3 = ((w1.setCell ⟨w.heap.size, 0, none⟩ (.int .i64 0)).setCell ⟨w.heap.size, 1, none⟩ (.string ⟨#[]⟩)).setCell ⟨w.heap.size, 2, none⟩ (.string ⟨#[]⟩) := ⟨_, rfl⟩
            rw [← hW3] at q0 q1 q2 hbz ⊢
            exact bodyPost_ret (v := .tuple #[.agg #[(.int .i64 0), (.string ⟨#[]⟩), (.string ⟨#[]⟩)], .string ⟨#[]⟩, .int .i64 6]) (by simp [results, Tryd.results39, go_sem, q0, q1, q2]) rfl ⟨by rw [HN.out]; rfl, hbz⟩
           ·have e1 : ¬ (N : Int) < 65536 := by omega
            have e2 : (131072 : Int) < (N : Int) := by omega
            clear hbad
            have HN := hide (show r = .error 6 by exact HE.out)
            obtain ⟨r0, r1, r2, f0, f1, f2⟩ := HR0.out.facts
            obtain ⟨n0, n1, n2, -, -, -⟩ := HR1.out.facts
            go_wp2_with fail
            obtain ⟨q0, q1, q2⟩ := HR0.out.store (.int .i64 0) (.string ⟨#[]⟩) (.string ⟨#[]⟩)
            have hbz := below_store3' HB0.out (Nat.le_refl w.heap.size) (.int .i64 0) (.string ⟨#[]⟩) (.string ⟨#[]⟩)
            obtain ⟨W3, hW3⟩ : ∃ W3, W3 = ((w1.setCell ⟨w.heap.size, 0, none⟩ (.int .i64 0)).setCell ⟨w.heap.size, 1, none⟩ (.string ⟨#[]⟩)).setCell ⟨w.heap.size, 2, none⟩ (.string ⟨#[]⟩) := ⟨_, rfl⟩
            rw [← hW3] at q0 q1 q2 hbz ⊢
            exact bodyPost_ret (v := .tuple #[.agg #[(.int .i64 0), (.string ⟨#[]⟩), (.string ⟨#[]⟩)], .string ⟨#[]⟩, .int .i64 6]) (by simp [results, Tryd.results39, go_sem, q0, q1, q2]) rfl ⟨by rw [HN.out]; rfl, hbz⟩
          ·have HX5 := hide (HX4.out.trans (if_neg (show ¬ (N < leastB 3 ∨ 131072 < N) from hbad)))
           have e1 : ¬ (N : Int) < 65536 := by omega
           have e2 : ¬ (131072 : Int) < (N : Int) := by omega
           clear hbad
           by_cases hc : s.size - 5 < N
           ·have hci : (s.size : Int) - 5 < (N : Int) := by omega
            have HE := hide (show r = .error 3 by rw [HX5.out, ← HS.out, cutE, cutB, if_pos (by rw [size_string]; exact hc)])
            clear hc
            have HN := hide (show r = .error 3 by exact HE.out)
            obtain ⟨r0, r1, r2, f0, f1, f2⟩ := HR0.out.facts
            obtain ⟨n0, n1, n2, -, -, -⟩ := HR1.out.facts
            go_wp2_with fail
            obtain ⟨q0, q1, q2⟩ := HR0.out.store (.int .i64 0) (.string ⟨#[]⟩) (.string ⟨#[]⟩)
            have hbz := below_store3' HB0.out (Nat.le_refl w.heap.size) (.int .i64 0) (.string ⟨#[]⟩) (.string ⟨#[]⟩)
            obtain ⟨W3, hW3⟩ : ∃ W3, W3 = ((w1.setCell ⟨w.heap.size, 0, none⟩ (.int .i64 0)).setCell ⟨w.heap.size, 1, none⟩ (.string ⟨#[]⟩)).setCell ⟨w.heap.size, 2, none⟩ (.string ⟨#[]⟩) := ⟨_, rfl⟩
            rw [← hW3] at q0 q1 q2 hbz ⊢
            exact bodyPost_ret (v := .tuple #[.agg #[(.int .i64 0), (.string ⟨#[]⟩), (.string ⟨#[]⟩)], .string ⟨#[]⟩, .int .i64 3]) (by simp [results, Tryd.results39, go_sem, q0, q1, q2]) rfl ⟨by rw [HN.out]; rfl, hbz⟩
           ·have hci : ¬ (s.size : Int) - 5 < (N : Int) := by omega
            have hnb : (0 : Int) ≤ 0 := by omega
            have hw1 : IntKind.i64.wrap (5 + (N : Int)) = 5 + (N : Int) := IntWalk.i64_in _ (by omega)
            have hle : 5 + N ≤ s.size := by omega
            have hs1 := slice_str (P := Tryd.prog) 9 Tryd.underlying9 s 5 (5 + N) 5 (5 + (N : Int)) rfl (by omega) (by omega) hle
            have hs2 := slice_to (P := Tryd.prog) 9 Tryd.underlying9 s (5 + N) (5 + (N : Int)) (by omega) hle
            have hs3 := slice_from (P := Tryd.prog) 9 Tryd.underlying9 s (5 + N) (5 + (N : Int)) (by omega) hle
            obtain ⟨x1, hx1⟩ : ∃ x, s.extract 5 (5 + N) = x := ⟨_, rfl⟩
            obtain ⟨x2, hx2⟩ : ∃ x, s.extract 0 (5 + N) = x := ⟨_, rfl⟩
            obtain ⟨x3, hx3⟩ : ∃ x, s.extract (5 + N) s.size = x := ⟨_, rfl⟩
            rw [hx1] at hs1
            rw [hx2] at hs2
            rw [hx3] at hs3
            have HN := hide (show r = .ok ((t.toNat, x1.data.toList, x2.data.toList), x3.data.toList) by
             rw [HX5.out, ← HS.out, cutE, cutB, if_neg (by rw [size_string]; omega), ← hx1, ← hx2, ← hx3, Lib.extract_data, Lib.extract_data, bytes_drop]
             simp only [Nat.add_sub_cancel_left, Nat.sub_zero, List.drop_zero])
            clear hx1 hx2 hx3 hle hnb
            obtain ⟨r0, r1, r2, f0, f1, f2⟩ := HR0.out.facts
            go_upto_region 27 with fail
            go_region
            all_goals
             go_wp2_with fail
             obtain ⟨q0, q1, q2⟩ := HR0.out.store (.int .i64 (t.toNat : Int)) (.string x1) (.string x2)
             have hbz := below_store3' HB0.out (Nat.le_refl w.heap.size) (.int .i64 (t.toNat : Int)) (.string x1) (.string x2)
             obtain ⟨W3, hW3⟩ : ∃ W3, W3 = (((w1.setCell ⟨w.heap.size, 0, none⟩ (.int .i64 (t.toNat : Int))).setCell ⟨w.heap.size, 1, none⟩ (.string x1)).setCell ⟨w.heap.size, 2, none⟩ (.string x2)) := ⟨_, rfl⟩
             rw [← hW3] at q0 q1 q2 hbz ⊢
             have q0' : W3.drew.cell? ⟨w.heap.size, 0, none⟩ = some (.int .i64 (t.toNat : Int)) := q0
             have q1' : W3.drew.cell? ⟨w.heap.size, 1, none⟩ = some (.string x1) := q1
             have q2' : W3.drew.cell? ⟨w.heap.size, 2, none⟩ = some (.string x2) := q2
             exact bodyPost_ret (v := .tuple #[.agg #[.int .i64 (t.toNat : Int), .string x1, .string x2], .string x3, .int .i64 0]) (by simp [results, Tryd.results39, go_sem, q0', q1', q2']) rfl ⟨by rw [HN.out]; rfl, hbz.drew⟩
end Go.Proofs.YtmgnihmjjijdoaaDoor
namespace Go.Proofs.YtmgnihmjjijdoaaDoor
open Go.RowKit
end Go.Proofs.YtmgnihmjjijdoaaDoor
