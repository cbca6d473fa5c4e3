/- Elements, plain: what Wrap writes, what Read reads, and that it reads what Wrap writes. -/
import Derived.Lib.Hide
namespace Go.Proofs.YtbafpgdmnkkclaaDoor
open Go.RowKit

/-- the octets of a length -/
def lenB (n : Nat) : List UInt8 :=
  if n < 128 then [UInt8.ofNat n] else if n < 256 then [129, UInt8.ofNat n] else if n < 65536 then [130, UInt8.ofNat (n / 256), UInt8.ofNat n] else [131, UInt8.ofNat (n / 65536), UInt8.ofNat (n / 256), UInt8.ofNat n]
def wrapW (t : Nat) (c : List UInt8) : List UInt8 := UInt8.ofNat t :: (lenB c.length ++ c)
/-- Wrap: the element, or nothing and the error's number -/
def wrapF (t : Nat) (xs : List (List UInt8)) : List UInt8 × Int :=
  if 131072 < xs.flatten.length then ([], 6) else (wrapW t xs.flatten, 0)

/-- an element: tag, content, raw -/
abbrev Elt := Nat × List UInt8 × List UInt8
/-- the number that octets write, the highest first -/
def beB (l : List UInt8) : Nat := l.foldl (fun n c => n * 256 + c.toNat) 0
/-- the least length that k further octets may write -/
def leastB (k : Nat) : Nat := if k = 1 then 128 else if k = 2 then 256 else 65536
/-- behind the head: n octets of content from the octet at -/
def cutB (b : List UInt8) (t at_ n : Nat) : Option (Elt × List UInt8) :=
  if b.length - at_ < n then none else some ((t, (b.drop at_).take n, b.take (at_ + n)), b.drop (at_ + n))
theorem beB_one (a : Nat) (h : a < 256) : beB [UInt8.ofNat a] = a := by
  simp [beB, UInt8.toNat_ofNat']; omega
theorem beB_two (m : Nat) (h : m < 65536) : beB [UInt8.ofNat (m / 256), UInt8.ofNat m] = m := by
  simp [beB, UInt8.toNat_ofNat']; omega
theorem beB_three (m : Nat) (h : m < 16777216) : beB [UInt8.ofNat (m / 65536), UInt8.ofNat (m / 256), UInt8.ofNat m] = m := by
  simp [beB, UInt8.toNat_ofNat']; omega
theorem lenB_pos (n : Nat) : 0 < (lenB n).length := by
  unfold lenB; split
  · simp
  · split
    · simp
    · split <;> simp
theorem lenB_le (n : Nat) : (lenB n).length ≤ 4 := by
  unfold lenB; split
  · simp
  · split
    · simp
    · split <;> simp
theorem wrapW_len (t : Nat) (c : List UInt8) : (wrapW t c).length = 1 + (lenB c.length).length + c.length := by
  simp [wrapW]; omega
/-- cutting an element's bytes behind its head gives the content, the element, and what follows -/
theorem cut_wrap (t : Nat) (c r : List UInt8) :
    cutB (wrapW t c ++ r) t (1 + (lenB c.length).length) c.length = some ((t, c, wrapW t c), r) := by
  have hl := wrapW_len t c
  have e1 : wrapW t c ++ r = (UInt8.ofNat t :: lenB c.length) ++ (c ++ r) := by simp [wrapW]
  have e2 : (UInt8.ofNat t :: lenB c.length).length = 1 + (lenB c.length).length := by simp; omega
  have h1 : (wrapW t c ++ r).drop (1 + (lenB c.length).length) = c ++ r := by
    rw [e1, ← e2, List.drop_left]
  have h2 : (wrapW t c ++ r).take (1 + (lenB c.length).length + c.length) = wrapW t c := by
    rw [← hl, List.take_left]
  have h3 : (wrapW t c ++ r).drop (1 + (lenB c.length).length + c.length) = r := by
    rw [← hl, List.drop_left]
  rw [cutB, if_neg (by rw [List.length_append]; omega), h1, h2, h3, List.take_left]
def cutE (b : List UInt8) (t at_ n : Nat) : Except Int (Elt × List UInt8) :=
  match cutB b t at_ n with
  | none => .error 3
  | some x => .ok x
/-- Read: an element and what follows it, or the error's number -/
def readF : List UInt8 → Except Int (Elt × List UInt8)
  | [] => .error 3
  | t :: r =>
    if t.toNat % 32 = 31 then .error 5 else
    match r with
    | [] => .error 3
    | n :: q =>
      if n.toNat = 128 ∨ 131 < n.toNat then .error 6
      else if n.toNat < 128 then cutE (t :: n :: q) t.toNat 2 n.toNat
      else if q.length < n.toNat - 128 then .error 3
      else if beB (q.take (n.toNat - 128)) < leastB (n.toNat - 128) ∨ 131072 < beB (q.take (n.toNat - 128)) then .error 6
      else cutE (t :: n :: q) t.toNat (2 + (n.toNat - 128)) (beB (q.take (n.toNat - 128)))
theorem ofNat_lt (a : Nat) (h : a < 256) : (UInt8.ofNat a).toNat = a := by rw [UInt8.toNat_ofNat']; omega
/-- Read of what Wrap wrote, with anything behind it -/
theorem read_wrap (t : Nat) (ht : t < 256) (ht31 : t % 32 ≠ 31) (c r : List UInt8) (hc : c.length ≤ 131072) : readF (wrapW t c ++ r) = .ok ((t, c, wrapW t c), r) := by
  have hcut := cut_wrap t c r
  obtain ⟨m, hm⟩ : ∃ m, c.length = m := ⟨_, rfl⟩
  rw [hm] at hc hcut
  have et := ofNat_lt t ht
  have hcut' : ∀ a, 1 + (lenB m).length = a → cutE (wrapW t c ++ r) t a m = .ok ((t, c, wrapW t c), r) := fun a ha => by
    subst ha; rw [cutE, hcut]
  clear hcut
  rw [wrapW, hm] at hcut' ⊢
  by_cases h1 : m < 128
  · have e : lenB m = [UInt8.ofNat m] := by rw [lenB, if_pos h1]
    rw [e] at hcut' ⊢
    have em := ofNat_lt m (by omega)
    have := hcut' 2 rfl
    simp only [List.cons_append, List.nil_append] at this ⊢
    rw [readF]
    simp only [et, em]
    rw [if_neg ht31, if_neg (by omega), if_pos h1]
    exact this
  · by_cases h2 : m < 256
    · have e : lenB m = [129, UInt8.ofNat m] := by rw [lenB, if_neg h1, if_pos h2]
      rw [e] at hcut' ⊢
      have em := beB_one m h2
      have := hcut' 3 rfl
      have e9 : (129 : UInt8).toNat = 129 := rfl
      simp only [List.cons_append, List.nil_append] at this ⊢
      rw [readF]
      simp only [et, e9, Nat.reduceSub, List.take_succ_cons, List.take_zero, em, leastB, List.length_cons]
      rw [if_neg ht31, if_neg (by omega), if_neg (by omega), if_neg (by omega), if_neg (by simp; omega)]
      exact this
    · by_cases h3 : m < 65536
      · have e : lenB m = [130, UInt8.ofNat (m / 256), UInt8.ofNat m] := by rw [lenB, if_neg h1, if_neg h2, if_pos h3]
        rw [e] at hcut' ⊢
        have em := beB_two m h3
        have := hcut' 4 rfl
        have e9 : (130 : UInt8).toNat = 130 := rfl
        simp only [List.cons_append, List.nil_append] at this ⊢
        rw [readF]
        simp only [et, e9, Nat.reduceSub, List.take_succ_cons, List.take_zero, em, leastB, List.length_cons]
        rw [if_neg ht31, if_neg (by omega), if_neg (by omega), if_neg (by omega), if_neg (by simp; omega)]
        exact this
      · have e : lenB m = [131, UInt8.ofNat (m / 65536), UInt8.ofNat (m / 256), UInt8.ofNat m] := by rw [lenB, if_neg h1, if_neg h2, if_neg h3]
        rw [e] at hcut' ⊢
        have em := beB_three m (by omega)
        have := hcut' 5 rfl
        have e9 : (131 : UInt8).toNat = 131 := rfl
        simp only [List.cons_append, List.nil_append] at this ⊢
        rw [readF]
        simp only [et, e9, Nat.reduceSub, List.take_succ_cons, List.take_zero, em, leastB, List.length_cons]
        rw [if_neg ht31, if_neg (by omega), if_neg (by omega), if_neg (by omega), if_neg (by simp; omega)]
        exact this
theorem u8_eq {a b : UInt8} (h : a.toNat = b.toNat) : a = b := UInt8.toNat_inj.1 h
theorem ofNat_mod (a : Nat) : (UInt8.ofNat a).toNat = a % 256 := by rw [UInt8.toNat_ofNat']
/-- octets that are the shortest for their number are what Wrap writes -/
theorem len_dec (x : UInt8) (l : List UInt8) (hx : 128 < x.toNat) (hx2 : x.toNat ≤ 131) (hl : l.length = x.toNat - 128) (h1 : leastB (x.toNat - 128) ≤ beB l) : lenB (beB l) = x :: l := by
  match l, hl with
  | [], hl => simp at hl; omega
  | [a], hl =>
    have ex : x = 129 := u8_eq (by show x.toNat = 129; simp at hl; omega)
    subst ex
    have hb : beB [a] = a.toNat := by simp [beB]
    have ha := a.toNat_lt
    have h2 : 128 ≤ a.toNat := by rw [hb, show leastB ((129 : UInt8).toNat - 128) = 128 by decide +kernel] at h1; exact h1
    rw [hb, lenB, if_neg (by omega), if_pos (by omega)]
    exact congrArg (fun y => [129, y]) (u8_eq (by rw [ofNat_mod]; omega))
  | [a, b], hl =>
    have ex : x = 130 := u8_eq (by show x.toNat = 130; simp at hl; omega)
    subst ex
    have hb : beB [a, b] = a.toNat * 256 + b.toNat := by simp [beB]
    have ha := a.toNat_lt
    have hb' := b.toNat_lt
    have h2 : 256 ≤ a.toNat * 256 + b.toNat := by rw [hb, show leastB ((130 : UInt8).toNat - 128) = 256 by decide +kernel] at h1; exact h1
    rw [hb, lenB, if_neg (by omega), if_neg (by omega), if_pos (by omega)]
    rw [u8_eq (a := UInt8.ofNat ((a.toNat * 256 + b.toNat) / 256)) (b := a) (by rw [ofNat_mod]; omega), u8_eq (a := UInt8.ofNat (a.toNat * 256 + b.toNat)) (b := b) (by rw [ofNat_mod]; omega)]
  | [a, b, c], hl =>
    have ex : x = 131 := u8_eq (by show x.toNat = 131; simp at hl; omega)
    subst ex
    have hb : beB [a, b, c] = (a.toNat * 256 + b.toNat) * 256 + c.toNat := by simp [beB]
    have ha := a.toNat_lt
    have hb' := b.toNat_lt
    have hc' := c.toNat_lt
    have h2 : 65536 ≤ (a.toNat * 256 + b.toNat) * 256 + c.toNat := by rw [hb, show leastB ((131 : UInt8).toNat - 128) = 65536 by decide +kernel] at h1; exact h1
    rw [hb, lenB, if_neg (by omega), if_neg (by omega), if_neg (by omega)]
    rw [u8_eq (a := UInt8.ofNat (((a.toNat * 256 + b.toNat) * 256 + c.toNat) / 65536)) (b := a) (by rw [ofNat_mod]; omega), u8_eq (a := UInt8.ofNat (((a.toNat * 256 + b.toNat) * 256 + c.toNat) / 256)) (b := b) (by rw [ofNat_mod]; omega), u8_eq (a := UInt8.ofNat ((a.toNat * 256 + b.toNat) * 256 + c.toNat)) (b := c) (by rw [ofNat_mod]; omega)]
  | _ :: _ :: _ :: _ :: _, hl => simp at hl; omega
theorem cutE_ok {b : List UInt8} {t at_ n : Nat} {e : Elt} {r : List UInt8} (_ha : at_ ≤ b.length) (h : cutE b t at_ n = .ok (e, r)) :
    e.1 = t ∧ e.2.1.length = n ∧ e.2.2 = b.take at_ ++ e.2.1 ∧ b = e.2.2 ++ r := by
  rw [cutE, cutB] at h
  by_cases hn : b.length - at_ < n
  · rw [if_pos hn] at h; cases h
  · rw [if_neg hn] at h
    simp only [Except.ok.injEq, Prod.mk.injEq] at h
    obtain ⟨rfl, rfl⟩ := h
    refine ⟨rfl, by simp; omega, ?_, (List.take_append_drop _ _).symm⟩
    show b.take (at_ + n) = b.take at_ ++ (b.drop at_).take n
    rw [List.take_add]
/-- what Read accepts is what Wrap writes, with what follows behind it -/
theorem read_is_wrap {b : List UInt8} {e : Elt} {r : List UInt8} (h : readF b = .ok (e, r)) :
    e.1 < 256 ∧ e.1 % 32 ≠ 31 ∧ e.2.1.length ≤ 131072 ∧ e.2.2 = wrapW e.1 e.2.1 ∧ b = e.2.2 ++ r := by
  match b, h with
  | [], h => cases h
  | [t], h =>
    rw [readF] at h
    by_cases h31 : t.toNat % 32 = 31
    · rw [if_pos h31] at h; cases h
    · rw [if_neg h31] at h; cases h
  | t :: n :: q, h =>
    have ht := t.toNat_lt
    have hof : UInt8.ofNat t.toNat = t := u8_eq (by rw [ofNat_mod]; omega)
    rw [readF] at h
    by_cases h31 : t.toNat % 32 = 31
    · rw [if_pos h31] at h; cases h
    rw [if_neg h31] at h
    by_cases hn : n.toNat = 128 ∨ 131 < n.toNat
    · rw [if_pos hn] at h; cases h
    rw [if_neg hn] at h
    by_cases h128 : n.toNat < 128
    · rw [if_pos h128] at h
      obtain ⟨e1, e2, e3, e4⟩ := cutE_ok (by simp) h
      refine ⟨by omega, by rw [e1]; exact h31, by omega, ?_, e4⟩
      rw [e3, wrapW, e1, hof, e2, lenB, if_pos h128]
      have : UInt8.ofNat n.toNat = n := u8_eq (by rw [ofNat_mod]; omega)
      rw [this]; rfl
    · rw [if_neg h128] at h
      by_cases hq : q.length < n.toNat - 128
      · rw [if_pos hq] at h; cases h
      rw [if_neg hq] at h
      by_cases hv : beB (q.take (n.toNat - 128)) < leastB (n.toNat - 128) ∨ 131072 < beB (q.take (n.toNat - 128))
      · rw [if_pos hv] at h; cases h
      rw [if_neg hv] at h
      obtain ⟨e1, e2, e3, e4⟩ := cutE_ok (by simp; omega) h
      refine ⟨by omega, by rw [e1]; exact h31, by omega, ?_, e4⟩
      have hd := len_dec n (q.take (n.toNat - 128)) (by omega) (by omega) (by rw [List.length_take]; omega) (by omega)
      rw [e3, wrapW, e1, hof, e2, hd, show 2 + (n.toNat - 128) = n.toNat - 128 + 1 + 1 by omega, List.take_succ_cons, List.take_succ_cons]
      rfl
theorem read_shorter {b : List UInt8} {e : Elt} {r : List UInt8} (h : readF b = .ok (e, r)) : r.length < b.length := by
  obtain ⟨-, -, -, h4, h5⟩ := read_is_wrap h
  have := wrapW_len e.1 e.2.1
  rw [← h4] at this
  have h6 := congrArg List.length h5
  rw [List.length_append] at h6
  omega
/-- List: the elements of which contents consist -/
def listN : Nat → List UInt8 → Except Int (List Elt)
  | _, [] => .ok []
  | 0, _ => .error 0
  | f + 1, c :: q =>
    match readF (c :: q) with
    | .error k => .error k
    | .ok (e, r) =>
      match listN f r with
      | .error k => .error k
      | .ok l => .ok (e :: l)
def listF (b : List UInt8) : Except Int (List Elt) := listN b.length b
theorem listN_fuel : ∀ (f g : Nat) (b : List UInt8), b.length ≤ f → b.length ≤ g → listN f b = listN g b
  | f, g, [], _, _ => by cases f <;> cases g <;> rfl
  | 0, _, _ :: _, h, _ => by simp at h
  | _, 0, _ :: _, _, h => by simp at h
  | f + 1, g + 1, c :: q, h1, h2 => by
    rw [listN, listN]
    cases hr : readF (c :: q) with
    | error k => rfl
    | ok x =>
      obtain ⟨e, r⟩ := x
      have hs := read_shorter hr
      simp only
      rw [listN_fuel f g r (by simp only [List.length_cons] at *; omega) (by simp only [List.length_cons] at *; omega)]
theorem listF_nil : listF [] = .ok [] := rfl
theorem listF_error {b : List UInt8} {k : Int} (hb : b ≠ []) (h : readF b = .error k) : listF b = .error k := by
  match b, hb with
  | c :: q, _ => rw [listF, List.length_cons, listN, h]
theorem listF_cons {b : List UInt8} {e : Elt} {r : List UInt8} (h : readF b = .ok (e, r)) : listF b = match listF r with | .error k => .error k | .ok l => .ok (e :: l) := by
  match b, h with
  | [], h => cases h
  | c :: q, h =>
    have hs := read_shorter h
    rw [listF, List.length_cons, listN, h]
    simp only
    rw [listF, listN_fuel q.length r.length r (by simp only [List.length_cons] at hs; omega) (Nat.le_refl _)]
/-- the elements that Wrap wrote, one behind the other -/
theorem list_wrap (t : Nat) (ht : t < 256) (ht31 : t % 32 ≠ 31) (c r : List UInt8) (hc : c.length ≤ 131072) :
    listF (wrapW t c ++ r) = match listF r with | .error k => .error k | .ok l => .ok ((t, c, wrapW t c) :: l) := listF_cons (read_wrap t ht ht31 c r hc)
/-- contents that List accepts are its elements' bytes -/
theorem list_raw : ∀ (n : Nat) (b : List UInt8) (l : List Elt), b.length ≤ n → listF b = .ok l → b = l.flatMap (·.2.2)
  | _, [], l, _, h => by rw [listF_nil] at h; cases h; rfl
  | 0, _ :: _, _, hn, _ => by simp at hn
  | n + 1, c :: q, l, hn, h => by
    cases hr : readF (c :: q) with
    | error k => rw [listF_error (by simp) hr] at h; cases h
    | ok x =>
      obtain ⟨e, r⟩ := x
      have hs := read_shorter hr
      rw [listF_cons hr] at h
      cases hl : listF r with
      | error k => rw [hl] at h; cases h
      | ok l' =>
        rw [hl] at h
        simp only [Except.ok.injEq] at h
        subst h
        rw [List.flatMap_cons, ← list_raw n r l' (by simp only [List.length_cons] at *; omega) hl]
        exact (read_is_wrap hr).2.2.2.2
/-- One: the element that b consists of -/
def oneF (b : List UInt8) : Except Int Elt :=
  match readF b with
  | .error k => .error k
  | .ok (e, r) => if r = [] then .ok e else .error 4
theorem one_wrap (t : Nat) (ht : t < 256) (ht31 : t % 32 ≠ 31) (c : List UInt8) (hc : c.length ≤ 131072) : oneF (wrapW t c) = .ok (t, c, wrapW t c) := by
  have := read_wrap t ht ht31 c [] hc
  rw [List.append_nil] at this
  rw [oneF, this]
  rfl
theorem one_is_wrap {b : List UInt8} {e : Elt} (h : oneF b = .ok e) : e.1 < 256 ∧ e.1 % 32 ≠ 31 ∧ e.2.1.length ≤ 131072 ∧ e.2.2 = b ∧ b = wrapW e.1 e.2.1 := by
  rw [oneF] at h
  cases hr : readF b with
  | error k => rw [hr] at h; cases h
  | ok x =>
    obtain ⟨e', r⟩ := x
    rw [hr] at h
    simp only at h
    by_cases h0 : r = []
    · rw [if_pos h0] at h
      simp only [Except.ok.injEq] at h
      subst h
      obtain ⟨h1, h2, h3, h4, h5⟩ := read_is_wrap hr
      rw [h0, List.append_nil] at h5
      exact ⟨h1, h2, h3, h5.symm, by rw [← h4]; exact h5⟩
    · rw [if_neg h0] at h; cases h

/-- the elements that List reads are as Wrap writes them -/
theorem list_is_wrap : ∀ (n : Nat) (b : List UInt8) (l : List Elt), b.length ≤ n → listF b = .ok l → ∀ e ∈ l, e.1 < 256 ∧ e.1 % 32 ≠ 31 ∧ e.2.1.length ≤ 131072 ∧ e.2.2 = wrapW e.1 e.2.1
  | _, [], l, _, h => by rw [listF_nil] at h; cases h; intro e he; cases he
  | 0, _ :: _, _, hn, _ => by simp at hn
  | n + 1, c :: q, l, hn, h => by
    cases hr : readF (c :: q) with
    | error k => rw [listF_error (by simp) hr] at h; cases h
    | ok x =>
      obtain ⟨e, r⟩ := x
      have hs := read_shorter hr
      rw [listF_cons hr] at h
      cases hl : listF r with
      | error k => rw [hl] at h; cases h
      | ok l' =>
        rw [hl] at h
        simp only [Except.ok.injEq] at h
        subst h
        obtain ⟨h1, h2, h3, h4, _⟩ := read_is_wrap hr
        intro x hx
        rcases List.mem_cons.1 hx with rfl | hx
        · exact ⟨h1, h2, h3, h4⟩
        · exact list_is_wrap n r l' (by simp only [List.length_cons] at *; omega) hl x hx
theorem list_len : ∀ (n : Nat) (b : List UInt8) (l : List Elt), b.length ≤ n → listF b = .ok l → l.length ≤ b.length
  | _, [], l, _, h => by rw [listF_nil] at h; cases h; simp
  | 0, _ :: _, _, hn, _ => by simp at hn
  | n + 1, c :: q, l, hn, h => by
    cases hr : readF (c :: q) with
    | error k => rw [listF_error (by simp) hr] at h; cases h
    | ok x =>
      obtain ⟨e, r⟩ := x
      have hs := read_shorter hr
      rw [listF_cons hr] at h
      cases hl : listF r with
      | error k => rw [hl] at h; cases h
      | ok l' =>
        rw [hl] at h
        simp only [Except.ok.injEq] at h
        subst h
        have := list_len n r l' (by simp only [List.length_cons] at *; omega) hl
        simp only [List.length_cons] at *; omega
/-- an element's parts are no longer than what it was read from -/
theorem read_len {b : List UInt8} {e : Elt} {r : List UInt8} (h : readF b = .ok (e, r)) : e.2.1.length < b.length ∧ e.2.2.length ≤ b.length ∧ r.length < b.length := by
  obtain ⟨_, _, _, h4, h5⟩ := read_is_wrap h
  have hw := wrapW_len e.1 e.2.1
  rw [← h4] at hw
  have := congrArg List.length h5
  rw [List.length_append] at this
  omega
/-- the first error in contents that lie in d elements -/
def insideN : Nat → Nat → List UInt8 → Int
  | _, _, [] => 0
  | 0, _, _ => 0
  | f + 1, d, c :: q =>
    match readF (c :: q) with
    | .error k => k
    | .ok (e, r) =>
      if 16 ≤ d then 8
      else if (if e.1 / 32 % 2 = 0 then 0 else insideN f (d + 1) e.2.1) = 0 then insideN f d r
      else (if e.1 / 32 % 2 = 0 then 0 else insideN f (d + 1) e.2.1)
theorem insideN_fuel : ∀ (f g d : Nat) (b : List UInt8), b.length ≤ f → b.length ≤ g → insideN f d b = insideN g d b
  | f, g, _, [], _, _ => by cases f <;> cases g <;> rfl
  | 0, _, _, _ :: _, h, _ => by simp at h
  | _, 0, _, _ :: _, _, h => by simp at h
  | f + 1, g + 1, d, c :: q, h1, h2 => by
    rw [insideN, insideN]
    cases hr : readF (c :: q) with
    | error k => rfl
    | ok x =>
      obtain ⟨e, r⟩ := x
      obtain ⟨hc, _, hs⟩ := read_len hr
      simp only [List.length_cons] at *
      rw [insideN_fuel f g d r (by omega) (by omega), insideN_fuel f g (d + 1) e.2.1 (by omega) (by omega)]
def insideF (d : Nat) (b : List UInt8) : Int := insideN b.length d b
/-- the first error in the contents of an element that lies in d - 1 others -/
def withinF (d : Nat) (t : Nat) (c : List UInt8) : Int := if t / 32 % 2 = 0 then 0 else insideF d c
theorem insideF_nil (d : Nat) : insideF d [] = 0 := rfl
theorem insideF_error {d : Nat} {b : List UInt8} {k : Int} (hb : b ≠ []) (h : readF b = .error k) : insideF d b = k := by
  match b, hb with
  | c :: q, _ => rw [insideF, List.length_cons, insideN, h]
theorem insideF_cons {d : Nat} {b : List UInt8} {e : Elt} {r : List UInt8} (h : readF b = .ok (e, r)) :
    insideF d b = if 16 ≤ d then 8 else if withinF (d + 1) e.1 e.2.1 = 0 then insideF d r else withinF (d + 1) e.1 e.2.1 := by
  match b, h with
  | [], h => cases h
  | c :: q, h =>
    obtain ⟨hc, _, hs⟩ := read_len h
    rw [insideF, List.length_cons, insideN, h]
    simp only [List.length_cons] at *
    simp only [insideF, withinF]
    rw [insideN_fuel q.length r.length d r (by omega) (Nat.le_refl _), insideN_fuel q.length e.2.1.length (d + 1) e.2.1 (by omega) (Nat.le_refl _)]
    rfl
/-- Check -/
def checkF (b : List UInt8) : Int :=
  match oneF b with
  | .error k => k
  | .ok e => withinF 1 e.1 e.2.1
/-- the element, if it is not too long -/
def wrapO (t : Nat) (c : List UInt8) : Option (List UInt8) := if 131072 < c.length then none else some (wrapW t c)
theorem wrapO_some {t : Nat} {c b : List UInt8} (h : wrapO t c = some b) : c.length ≤ 131072 ∧ b = wrapW t c := by
  unfold wrapO at h
  split at h
  · cases h
  · cases h; exact ⟨by omega, rfl⟩
theorem wrapO_of {t : Nat} {c : List UInt8} (h : c.length ≤ 131072) : wrapO t c = some (wrapW t c) := if_neg (by omega)
/-- an error's number is not 0 -/
theorem cutE_err0 {b : List UInt8} {t a n : Nat} : cutE b t a n ≠ .error 0 := by
  unfold cutE
  split
  · simp
  · simp
theorem read_err0 (b : List UInt8) : readF b ≠ .error 0 := by
  match b with
  | [] => simp [readF]
  | [t] => rw [readF]; split <;> simp
  | t :: n :: q =>
    rw [readF]
    split
    · simp
    · split
      · simp
      · split
        · exact cutE_err0
        · split
          · simp
          · split
            · simp
            · exact cutE_err0
theorem list_err0 : ∀ (n : Nat) (b : List UInt8), b.length ≤ n → listF b ≠ .error 0
  | _, [], _ => by rw [listF_nil]; simp
  | 0, _ :: _, hn => by simp at hn
  | n + 1, c :: q, hn => by
    cases hr : readF (c :: q) with
    | error k =>
      rw [listF_error (by simp) hr]
      intro h
      cases h
      exact read_err0 _ hr
    | ok x =>
      obtain ⟨e, r⟩ := x
      have hs := read_shorter hr
      rw [listF_cons hr]
      have := list_err0 n r (by simp only [List.length_cons] at *; omega)
      split
      · rename_i k hk
        intro h
        cases h
        exact this hk
      · simp
theorem one_err0 (b : List UInt8) : oneF b ≠ .error 0 := by
  unfold oneF
  split
  · rename_i k hk
    intro h
    cases h
    exact read_err0 _ hk
  · split <;> simp
end Go.Proofs.YtbafpgdmnkkclaaDoor
