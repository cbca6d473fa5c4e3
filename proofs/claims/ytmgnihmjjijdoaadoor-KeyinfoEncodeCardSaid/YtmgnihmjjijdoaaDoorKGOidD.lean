/- The functions of package oid: Encode. -/
import Derived.Test.YtmgnihmjjijdoaaDoorKGSplit
import Derived.Test.YtmgnihmjjijdoaaDoorKLib
import Derived.Test.YtmgnihmjjijdoaaDoorRows
import Derived.ProofKit
import Derived.OpenShut
import Derived.Shelf.Vars
import Derived.Deep.Slices
namespace Go.Proofs.YtmgnihmjjijdoaaDoor
open Go.RowKit
def encR (o : Option (List UInt8)) : Value := .tuple #[.string ⟨(o.getD []).toArray⟩, .int .i64 (if o.isSome then 0 else 11)]
def encL (l : List Nat) : List UInt8 := putL (40 * l.getD 0 0 + l.getD 1 0) ++ (l.drop 2).flatMap putL
def encP (s : List UInt8) : Option (List UInt8) := (arcsP s).map encL
theorem putL_len (n : Nat) (h : n ≤ 4294967295) : (putL n).length ≤ 6 := by
 have := hiL_len (n / 128) (by omega)
 simp [putL]; omega
theorem rootB_le {a b : Nat} (h : rootB a b = true) : a ≤ 2 := by
 unfold rootB at h
 simp at h
 omega
theorem ret_encN {o : Option (List UInt8)} (h : o = none) : Ending.returned (.tuple #[.string ⟨#[]⟩, .int .i64 11]) = Ending.returned (encR o) := by subst h; rfl
theorem ret_encS {o : Option (List UInt8)} {l : List UInt8} (h : o = some l) : Ending.returned (.tuple #[.string ⟨l.toArray⟩, .int .i64 0]) = Ending.returned (encR o) := by subst h; rfl
set_option maxHeartbeats 4000000 in
theorem Encode_any (s : ByteArray) (hs : s.size ≤ 1000000) (w : World) (hmx : Mx w) :
    Calls Tryd.prog 30 #[.string s] w fun e w' => e = .returned (encR (encP s.data.toList)) ∧ Below w.heap.size w w' := by
  have HMX := hide hmx
  clear hmx
  obtain ⟨r, hr⟩ : ∃ r, arcsP s.data.toList = r := ⟨_, rfl⟩
  rw [encP, hr]
  have HR := hide hr
  clear hr
  go_enter Tryd.func30, Tryd.ntmps30
  go_wp2_with fail
  refine (arcs_any s hs _ HMX.out).mono ?_
  rw [HR.out]
  rintro e w1 ⟨hb, h⟩
  cases r with
  | none =>
    subst h
    have hq := fun W : World => Lib.run_eql_slice_nil (P := Tryd.prog) W 24 3 none 0 0 0 0 Tryd.underlying24
    go_wp2_with fail
    go_ret2
    exact ⟨rfl, hb⟩
  | some l =>
    obtain ⟨g, c, rfl, hg, hsl⟩ := h
    obtain ⟨h2, h12, hle, hroot⟩ := arcsP_some HR.out
    have hq := fun W : World => Lib.run_eql_slice_nil (P := Tryd.prog) W 24 3 (some ⟨g, 0, none⟩) l.length c 0 0 Tryd.underlying24
    obtain ⟨-, hlc, -⟩ := hsl.len_
    have hcell : ∀ i (h : i < l.length), w1.cell? ⟨g, i, none⟩ = some (.int .i64 (l[i] : Int)) := fun i hi => by
      obtain ⟨b, off, hA, hb', hc⟩ := hsl.natAt hi
      cases hA
      simpa using hc
    obtain ⟨b0, o0, hA, hgl, -⟩ := hsl.natAt (i := 0) (by omega)
    cases hA
    have hgl' : g < w1.heap.size := hgl
    have h0 := hcell 0 (by omega)
    have h1 := hcell 1 (by omega)
    have HCELL := hide hcell
    obtain ⟨a, ha⟩ : ∃ a, l[0]'(by omega) = a := ⟨_, rfl⟩
    obtain ⟨b, hbb⟩ : ∃ b, l[1]'(by omega) = b := ⟨_, rfl⟩
    rw [ha] at h0
    rw [hbb] at h1
    have e0 : l.getD 0 0 = a := by rw [← ha]; simp [List.getD, List.getElem?_eq_getElem (show 0 < l.length by omega)]
    have e1 : l.getD 1 0 = b := by rw [← hbb]; simp [List.getD, List.getElem?_eq_getElem (show 1 < l.length by omega)]
    rw [e0, e1] at hroot
    have ha2 := rootB_le hroot
    have hb2 : b ≤ 2147483647 := by rw [← hbb]; exact hle _ (List.getElem_mem _)
    have HE := hide (show encL l = putL (40 * a + b) ++ (l.drop 2).flatMap putL by rw [encL, e0, e1])
    have HLE := hide hle
    have HB := hide hb
    clear e0 e1 hroot ha hbb hle hsl hcell hb
    have hi0 : (0 : Int) < (l.length : Int) := by omega
    have hi1 : (1 : Int) < (l.length : Int) := by omega
    have hw1 : IntKind.i64.wrap (40 * (a : Int)) = 40 * (a : Int) := IntWalk.i64_in _ (by omega)
    have hw2 : IntKind.i64.wrap (40 * (a : Int) + (b : Int)) = 40 * (a : Int) + (b : Int) := IntWalk.i64_in _ (by omega)
    have hix0 : (0 : Nat) < l.length := by omega
    have hix1 : (1 : Nat) < l.length := by omega
    go_wp2_with fail
    go_region_held3 (fun W => W.cell? ⟨g, 0, none⟩ = some (.int .i64 (a : Int)) ∧ W.cell? ⟨g, 1, none⟩ = some (.int .i64 (b : Int)))
      (first | exact ⟨h0, h1⟩ | exact ⟨(hb9.cell hgl').trans h0, (hb9.cell hgl').trans h1⟩)
      ((go_at_call 43; refine (put_int (40 * a + b) _ (by omega) (by omega) _ [] w1.heap.size _ (by simp) (Own.nil _ _ _ _ _ _) (by simp)).mono ?_; rintro e w9 ⟨v9, rfl, hown9, hb9⟩))
    all_goals
      clear hw1 hw2 hi0 hi1 hix0 hix1 h0 h1
      rw [List.nil_append] at hown9
      have hpl := putL_len (40 * a + b) (by omega)
      have hs9 := hb9.size
      obtain ⟨m, hm⟩ : ∃ m, l.length - 2 = m := ⟨_, rfl⟩
      have hlm : l.length = m + 2 := by omega
      have hm10 : m ≤ 10 := by omega
      go_wp2_with fail
    all_goals
      have hwb : w1.heap.size ≤ w9.heap.size := hs9
      obtain ⟨base, hbase⟩ : ∃ base, base = w1.heap.size := ⟨_, rfl⟩
      rw [← hbase] at hown9 hgl' hwb
      have HBASE := hide hbase
      have HB9 := hide hb9
      clear hm hbase hs9 hb9
      go_loopw [5, 24] (fun v i wr => ∃ (k : Nat) (out : List UInt8), k ≤ m ∧ i = .int .i64 k ∧ Own RByte 1 5 wr base No v out ∧ Below base w9 wr ∧ base ≤ wr.heap.size ∧ out.length ≤ 6 * k + 6 ∧ Hid (encL l = out ++ (l.drop (2 + k)).flatMap putL)) (fun _ i _ => m - (intOf i).toNat)
      case atStart => exact ⟨0, _, by omega, rfl, hown9, Below.refl _ _, hwb, by omega, HE⟩
      case round =>
        obtain ⟨k, out, hk, rfl, hown, hb, hgs, hol, HO⟩ := hrel
        by_cases hlt : k < m
        · first
          | (exfalso; omega)
          | (have hcell : wr.cell? ⟨g, 2 + k, none⟩ = some (.int .i64 (l[2 + k]'(by omega) : Int)) := (hb.cell hgl').trans (((HB9.out).cell (HBASE.out ▸ hgl')).trans (HCELL.out (2 + k) (by omega)))
             have hle := HLE.out (l[2 + k]'(by omega)) (List.getElem_mem _)
             have hd := List.drop_eq_getElem_cons (show 2 + k < l.length by omega)
             obtain ⟨x, hx⟩ : ∃ x, l[2 + k]'(by omega) = x := ⟨_, rfl⟩
             rw [hx] at hcell hle hd
             have HP := hide (show encL l = (out ++ putL x) ++ (l.drop (2 + (k + 1))).flatMap putL by
               rw [HO.out, hd, List.flatMap_cons, List.append_assoc]; rfl)
             have hplx := putL_len x (by omega)
             clear hx hd
             go_wp2_with fail
             refine (put_any x (by omega) _ out base _ hgs hown (by omega)).mono ?_
             rintro e w3 ⟨v3, rfl, hown3, hb3⟩
             have hs3 := hb3.size
             go_wp2_with fail
             go_roundw
             case rel => exact ⟨k + 1, out ++ putL x, by omega, by go_num, hown3, hb.trans hb3, by omega, by simp; omega, HP⟩
             case measure => simp [intOf]; omega)
        · have hkm : k = m := by omega
          have HP := hide (show encL l = out by rw [HO.out, List.drop_of_length_le (by omega)]; simp)
          have hconv := run_bts_str (P := Tryd.prog) wr 43 9 5 Tryd.underlying43 Tryd.underlying5 Tryd.underlying9 _ _ _ (hown.sl RByte.ok)
          go_wp2_with fail
          go_ret2
          exact ⟨ret_encS (by rw [← HP.out]; rfl), HB.out.trans ((((Below.refl w1.heap.size w1).drew).trans (HB9.out.trans (HBASE.out ▸ hb))).mono (by have := HB.out.size; omega))⟩
end Go.Proofs.YtmgnihmjjijdoaaDoor
namespace Go.Proofs.YtmgnihmjjijdoaaDoor
open Go.RowKit
def NatsAt (w : World) (g : Nat) (l : List Nat) : Prop := ∀ i (h : i < l.length), w.cell? ⟨g, i, none⟩ = some (.int .i64 (l[i] : Int))
theorem Sl.nats {w : World} {S : Nat → Prop} {g : Nat} {n c : Nat} {l : List Nat} (h : Sl RNat 1 w S l [.slice (some ⟨g, 0, none⟩) n c]) : NatsAt w g l := fun i hi => by
 obtain ⟨b, off, hA, hb', hc⟩ := h.natAt hi
 cases hA
 simpa using hc
theorem Sl.nats_lt {w : World} {S : Nat → Prop} {g : Nat} {n c : Nat} {l : List Nat} (h : Sl RNat 1 w S l [.slice (some ⟨g, 0, none⟩) n c]) (h0 : 0 < l.length) : S g := by
 obtain ⟨b, off, hA, hb', hc⟩ := h.natAt h0
 cases hA
 exact hb'
theorem NatsAt.below {w w' : World} {g : Nat} {l : List Nat} (h : NatsAt w g l) {B : Nat} (hg : g < B) (hb : Below B w w') : NatsAt w' g l := fun i hi => (hb.cell hg).trans (h i hi)
end Go.Proofs.YtmgnihmjjijdoaaDoor
namespace Go.Proofs.YtmgnihmjjijdoaaDoor
open Go.RowKit
def arcM (d : List UInt8) (n : Nat) : Option Nat := if n = 12 then none else arcG d
def refG : List UInt8 → Nat → List UInt8 → Option (List Nat)
 | d, n, [] => (arcM d n).map fun v => [v]
 | d, n, c :: r => if c = 46 then (arcM d n).bind fun v => (refG [] (n + 1) r).map (v :: ·) else if isDig c then refG (d ++ [c]) n r else none
def refEnd (l : List Nat) : Option (List Nat) := if l.length < 2 ∨ 2 < l.getD 0 0 ∨ (l.getD 0 0 < 2 ∧ 39 < l.getD 1 0) then none else some l
def refP (s : List UInt8) : Option (List Nat) := (refG [] 0 s).bind refEnd
theorem arcK_no : ∀ (l : List UInt8) (n : Nat) (c : UInt8), c ∈ l → isDig c = false → arcK n l = none
  | [], _, _, h, _ => by cases h
  | x :: r, n, c, h, hc => by
    unfold arcK
    split
    · rcases List.mem_cons.1 h with rfl | h
      · rename_i hx; rw [hc] at hx; cases hx
      · exact arcK_no r _ c h hc
    · rfl
theorem arcG_no (l : List UInt8) (c : UInt8) (h : c ∈ l) (hc : isDig c = false) : arcG l = none := by
 unfold arcG
 split
 ·rfl
 ·exact arcK_no l 0 c h hc
def joinH (d : List UInt8) : List (List UInt8) → List (List UInt8)
 | [] => [d]
 | p :: ps => (d ++ p) :: ps
theorem joinH_nil {l : List (List UInt8)} (h : l ≠ []) : joinH [] l = l := by
 cases l with
 | nil => exact absurd rfl h
 | cons p ps => rfl
theorem refG_arcs : ∀ (r d : List UInt8) (n : Nat), n ≤ 12 → refG d n r = if n + (joinH d (splitC 46 r)).length ≤ 12 then arcsL (joinH d (splitC 46 r)) else none
  | [], d, n, hn => by
    rw [refG, arcM, splitC, joinH, List.append_nil]
    by_cases h : n = 12
    · rw [if_pos h, if_neg (by simp; omega)]; rfl
    · rw [if_neg h, if_pos (by simp; omega), arcsL, arcsL]
      cases arcG d <;> rfl
  | c :: r, d, n, hn => by
    rw [refG, splitC]
    by_cases hc : c = 46
    · rw [if_pos hc, if_pos hc, joinH, List.append_nil, arcM]
      by_cases h : n = 12
      · rw [if_pos h, if_neg (by simp; omega)]; rfl
      · have ih := refG_arcs r [] (n + 1) (by omega)
        rw [joinH_nil (splitC_ne 46 r)] at ih
        rw [if_neg h, ih, arcsL, List.length_cons]
        by_cases h2 : n + 1 + (splitC 46 r).length ≤ 12
        · rw [if_pos h2, if_pos (by omega)]
        · rw [if_neg h2, if_neg (by omega)]
          cases arcG d <;> rfl
    · rw [if_neg hc, if_neg hc]
      obtain ⟨p, ps, hp⟩ := List.exists_cons_of_ne_nil (splitC_ne 46 r)
      by_cases hd : isDig c = true
      · have ih := refG_arcs r (d ++ [c]) n hn
        rw [if_pos hd, ih, hp]
        simp only [joinH, List.append_assoc, List.singleton_append]
        rfl
      · rw [if_neg hd, hp]
        simp only [joinH]
        rw [arcsL, arcG_no (d ++ c :: p) c (by simp) (by simpa using hd)]
        simp
        exact (ite_self none).symm
theorem refP_arcsP (s : List UInt8) : refP s = arcsP s := by
  rw [refP, refG_arcs s [] 0 (by omega), joinH_nil (splitC_ne 46 s), Nat.zero_add, arcsP]
  by_cases h12 : (splitC 46 s).length ≤ 12
  · rw [if_pos h12]
    by_cases h2 : (splitC 46 s).length < 2
    · rw [if_pos (.inl h2)]
      cases hl : arcsL (splitC 46 s) with
      | none => rfl
      | some l => rw [Option.bind_some, refEnd, if_pos (.inl (by rw [arcsL_len _ _ hl]; exact h2))]
    · rw [if_neg (by omega), rootL]
      cases hl : arcsL (splitC 46 s) with
      | none => rfl
      | some l =>
        rw [Option.bind_some, Option.bind_some, refEnd]
        have := arcsL_len _ _ hl
        generalize l.getD 0 0 = A
        generalize l.getD 1 0 = B
        by_cases hr : rootB A B = true
        · rw [if_pos hr, if_neg]
          simp [rootB] at hr
          omega
        · rw [if_neg hr, if_pos]
          simp [rootB] at hr
          omega
  · rw [if_neg h12, if_pos (.inr (by omega))]; rfl
def RefRel (s : ByteArray) (r : Option (List Nat)) (k a : Nat) (out : List Nat) : Prop :=
 (k ≤ s.size ∧ a ≤ k ∧ (∀ c ∈ (s.extract a k).data.toList, isDig c = true) ∧ r = (refG (s.extract a k).data.toList out.length (s.data.toList.drop k)).map (out ++ ·)) ∨ (k = s.size + 1 ∧ r = some out)
theorem ext_nil (s : ByteArray) (a : Nat) : (s.extract a a).data.toList = [] := by
 rw [Lib.extract_data]; simp
theorem ext_snoc (s : ByteArray) (a k : Nat) (ha : a ≤ k) (hk : k < s.size) : (s.extract a (k + 1)).data.toList = (s.extract a k).data.toList ++ [s[k]] := by
 rw [Lib.extract_data, Lib.extract_data, show k + 1 - a = (k - a) + 1 by omega]
 rw [List.take_add_one]
 congr 1
 rw [List.getElem?_drop, show a + (k - a) = k by omega, List.getElem?_eq_getElem (by rw [size_string]; exact hk)]
 rfl
theorem RefRel.init (s : ByteArray) : RefRel s (refG [] 0 s.data.toList) 0 0 [] := by
 refine .inl ⟨Nat.zero_le _, Nat.le_refl _, by rw [ext_nil]; simp, ?_⟩
 rw [ext_nil]
 simp
theorem RefRel.digit {s : ByteArray} {r : Option (List Nat)} {k a : Nat} {out : List Nat} (h : RefRel s r k a out) (hk : k < s.size) (hc : s[k] ≠ 46) (hd : isDig s[k] = true) : RefRel s r (k + 1) a out := by
 rcases h with ⟨h1, h2, h3, h4⟩ | ⟨h1, _⟩
 ·refine .inl ⟨hk, by omega, ?_, ?_⟩
  ·rw [ext_snoc s a k h2 hk]
   intro c hc'
   rcases List.mem_append.1 hc' with h | h
   ·exact h3 c h
   ·simp at h; subst h; exact hd
  ·rw [ext_snoc s a k h2 hk, h4, drop_string s k hk, refG, if_neg hc, if_pos hd]
 ·omega
theorem RefRel.bad {s : ByteArray} {r : Option (List Nat)} {k a : Nat} {out : List Nat} (h : RefRel s r k a out) (hk : k < s.size) (hc : s[k] ≠ 46) (hd : isDig s[k] = false) : r = none := by
 rcases h with ⟨h1, h2, h3, h4⟩ | ⟨h1, _⟩
 ·rw [h4, drop_string s k hk, refG, if_neg hc, if_neg (by rw [hd]; simp)]; rfl
 ·omega
theorem RefRel.pieceN {s : ByteArray} {r : Option (List Nat)} {k a : Nat} {out : List Nat} (h : RefRel s r k a out) (hk : k = s.size ∨ ∃ h : k < s.size, s[k] = 46) (hm : arcM (s.extract a k).data.toList out.length = none) : r = none := by
 rcases h with ⟨h1, h2, h3, h4⟩ | ⟨h1, _⟩
 ·rcases hk with rfl | ⟨hk, hc⟩
  ·rw [h4, drop_string_end s s.size (Nat.le_refl _), refG, hm]; rfl
  ·rw [h4, drop_string s k hk, refG, if_pos hc, hm]; rfl
 ·rcases hk with hk | ⟨hk, _⟩ <;> omega
theorem RefRel.pieceS {s : ByteArray} {r : Option (List Nat)} {k a : Nat} {out : List Nat} (h : RefRel s r k a out) (hk : k = s.size ∨ ∃ h : k < s.size, s[k] = 46) {v : Nat} (hm : arcM (s.extract a k).data.toList out.length = some v) : RefRel s r (k + 1) (k + 1) (out ++ [v]) := by
 rcases h with ⟨h1, h2, h3, h4⟩ | ⟨h1, _⟩
 ·rcases hk with rfl | ⟨hk, hc⟩
  ·refine .inr ⟨rfl, ?_⟩
   rw [h4, drop_string_end s s.size (Nat.le_refl _), refG, hm]; rfl
  ·refine .inl ⟨hk, Nat.le_refl _, by rw [ext_nil]; simp, ?_⟩
   rw [h4, drop_string s k hk, refG, if_pos hc, hm, ext_nil, Option.bind_some, Option.map_map, List.length_append]
   congr 1
   funext z
   simp
 ·rcases hk with hk | ⟨hk, _⟩ <;> omega
end Go.Proofs.YtmgnihmjjijdoaaDoor
namespace Go.Proofs.YtmgnihmjjijdoaaDoor
open Go.RowKit
def RefPost (w : World) (r : Option (List Nat)) (e : Ending) (w' : World) : Prop :=
 Below w.heap.size w w' ∧ match r with
  | none => e = .returned (.tuple #[.slice none 0 0, .bool false])
  | some l => ∃ g c, e = .returned (.tuple #[.slice (some ⟨g, 0, none⟩) l.length c, .bool true]) ∧ w.heap.size ≤ g ∧ Sl RNat 1 w' (Lt w'.heap.size) l [.slice (some ⟨g, 0, none⟩) l.length c]
theorem RefPost.none_ {w : World} {e : Ending} {w' : World} {r : Option (List Nat)} (h : r.bind refEnd = none) (hb : Below w.heap.size w w') (he : e = .returned (.tuple #[.slice Option.none 0 0, .bool false])) : RefPost w (r.bind refEnd) e w' := by rw [h]; exact ⟨hb, he⟩
theorem arcG_dig (d : List UInt8) (h1 : d.length ≠ 0) (h2 : d.length ≤ 10) (h3 : d.getD 0 0 = 48 → d.length = 1) : arcG d = arcK 0 d := by
 rw [arcG, if_neg]
 rintro (h | h | ⟨h, h'⟩)
 ·omega
 ·omega
 ·have := h3 h; omega
theorem arcM_none {d : List UInt8} {n : Nat} (h : n = 12 ∨ d.length = 0 ∨ 10 < d.length ∨ (d.getD 0 0 = 48 ∧ 1 < d.length)) : arcM d n = none := by
 unfold arcM
 split
 ·rfl
 ·rw [arcG, if_pos]
  rcases h with h | h
  ·contradiction
  ·exact h
theorem getD0 (s : ByteArray) (hp : 0 < s.size) : s.data.toList.getD 0 0 = s[0] := by
 have := drop_string s 0 hp
 rw [List.drop_zero] at this
 rw [this]; rfl
theorem mem_byte (s : ByteArray) (k : Nat) (h : k < s.size) : s[k] ∈ s.data.toList := by
 have h2 : s[k] = s.data.toList[k]'(by simpa using h) := by simp [ByteArray.getElem_eq_getElem_data]
 rw [h2]; exact List.getElem_mem _
theorem isDig_le {c : UInt8} (h : isDig c = true) : 48 ≤ (c.toNat : Int) ∧ (c.toNat : Int) ≤ 57 := by simpa [isDig] using h
theorem isDig_no {c : UInt8} (h : ¬ (48 ≤ (c.toNat : Int) ∧ (c.toNat : Int) ≤ 57)) : isDig c = false := by simp [isDig]; omega
theorem refEnd_eq {l : List Nat} {a b : Nat} (h2 : ¬ l.length < 2) (ha : l.getD 0 0 = a) (hb : l.getD 1 0 = b) : refEnd l = if 2 < a ∨ (a < 2 ∧ 39 < b) then none else some l := by
 rw [refEnd, ha, hb]
 by_cases h : 2 < a ∨ (a < 2 ∧ 39 < b)
 ·rw [if_pos h, if_pos (.inr h)]
 ·rw [if_neg h, if_neg]
  rintro (h' | h')
  ·exact h2 h'
  ·exact h h'
set_option maxRecDepth 100000 in
set_option maxHeartbeats 8000000 in
theorem rarcs_any (s : ByteArray) (hs : s.size ≤ 1000000) (w : World) :
  Calls Tryd.prog 59 #[.string s] w (RefPost w (refP s.data.toList)) := by
 obtain ⟨r, hr⟩ : ∃ r, r = refG [] 0 s.data.toList := ⟨_, rfl⟩
 rw [refP, ← hr]
 have HR := hide hr
 clear hr
 obtain ⟨base, hbase, HBASE⟩ : ∃ base, base ≤ w.heap.size ∧ Hid (base = w.heap.size) := ⟨_, Nat.le_refl _, rfl⟩
 go_enter Tryd.func59, Tryd.ntmps59
 go_wp2_with fail
 go_loopw [4, 5, 6] (fun v a i wr => ∃ (k at_ : Nat) (out : List Nat), k ≤ s.size + 1 ∧ at_ ≤ k ∧ out.length ≤ 12 ∧ i = .int .i64 k ∧ a = .int .i64 at_ ∧ Own RNat 1 3 wr base No v out ∧ Below base w wr ∧ base ≤ wr.heap.size ∧ Hid (RefRel s r k at_ out)) (fun _ _ i _ => s.size + 1 - (intOf i).toNat)
 case atStart => exact ⟨0, 0, [], by omega, by omega, by simp, rfl, rfl, Own.nil _ _ _ _ _ _, Below.refl _ _, hbase, hide (by rw [HR.out]; exact RefRel.init s)⟩
 case round =>
  obtain ⟨k, at_, out, hk, hat, hol, rfl, rfl, hown, hb, hgs, H⟩ := hrel
  obtain ⟨A, cp, hv⟩ := (hown.sl RNat.ok).shape
  subst hv
  by_cases hle : k ≤ s.size
  ·by_cases hcont : ∃ h : k < s.size, s[k] ≠ 46
   ·obtain ⟨hlt, hne⟩ := hcont
    obtain ⟨c, hc⟩ : ∃ c, s[k] = c := ⟨_, rfl⟩
    have ht : ((c.toNat : Int) != 46) = true := by rw [bne, show ((c.toNat : Int) == 46) = (c == 46) from byte_beq' c 46]; rw [hc] at hne; simp [hne]
    have HNE := hide hne
    have HC := hide hc
    have hcl := byte_lt c
    have hk0 : (0 : Int) ≤ (k : Int) := by omega
    have hks : (k : Int) < (s.size : Int) := by omega
    clear hne
    by_cases hdg : 48 ≤ (c.toNat : Int) ∧ (c.toNat : Int) ≤ 57
    ·have HN := hide (H.out.digit hlt HNE.out (by rw [HC.out]; simp [isDig]; omega))
     obtain ⟨hd1, hd2⟩ := hdg
     go_wp2_with fail
     go_roundw
     case rel => exact ⟨k + 1, at_, out, by omega, by omega, hol, by go_num, rfl, hown, hb, hgs, HN⟩
     case measure => simp [intOf]; omega
    ·have HN := hide (H.out.bad hlt HNE.out (by rw [HC.out]; exact isDig_no hdg))
     have hdg' : (c.toNat : Int) < 48 ∨ (48 ≤ (c.toNat : Int) ∧ 57 < (c.toNat : Int)) := by omega
     clear hdg
     rcases hdg' with hd1 | ⟨hd1, hd2⟩
     all_goals
      go_wp2_with fail
      go_ret2
      exact RefPost.none_ (by rw [HN.out]; rfl) (HBASE.out ▸ hb) rfl
   ·have hterm : k = s.size ∨ ∃ h : k < s.size, s[k] = 46 := by
     rcases Nat.lt_or_ge k s.size with h | h
     ·exact .inr ⟨h, Classical.byContradiction fun hn => hcont ⟨h, hn⟩⟩
     ·exact .inl (by omega)
    clear hcont
    rcases hterm with rfl | ⟨hlt, hc⟩
    ·have hterm : s.size = s.size ∨ ∃ h : s.size < s.size, s[s.size] = 46 := .inl rfl
     have HT := hide hterm
     have hsl := slice_str (P := Tryd.prog) 9 Tryd.underlying9 s at_ s.size at_ s.size rfl rfl hat hle
     have hdig : ∀ c ∈ (s.extract at_ s.size).data.toList, isDig c = true := by
      rcases H.out with ⟨_, _, h, _⟩ | ⟨h, _⟩
      ·exact h
      ·omega
     have hsz := ba_size_ex s at_ s.size hle
     have HPN := hide (fun (h : arcM (s.extract at_ s.size).data.toList out.length = none) => H.out.pieceN HT.out h)
     have HPS := hide (fun v (h : arcM (s.extract at_ s.size).data.toList out.length = some v) => H.out.pieceS HT.out h)
     obtain ⟨D, hD⟩ : ∃ D, s.extract at_ s.size = D := ⟨_, rfl⟩
     rw [hD] at hsl hdig hsz HPN HPS
     have HDIG := hide hdig
     have hdl := size_string D
     clear hdig hD H HT hterm hsz
     have hk0 : (0 : Int) ≤ ((s.size : Nat) : Int) := by omega
     by_cases h0 : D.size = 0
     ·have HN := hide (HPN.out (arcM_none (.inr (.inl (by omega)))))
      go_wp2_with fail
      go_ret2
      exact RefPost.none_ (by rw [HN.out]; rfl) (HBASE.out ▸ hb) rfl
     ·by_cases h10 : 10 < D.size
      ·have HN := hide (HPN.out (arcM_none (.inr (.inr (.inl (by omega))))))
       go_wp2_with fail
       go_ret2
       exact RefPost.none_ (by rw [HN.out]; rfl) (HBASE.out ▸ hb) rfl
      ·have hp : 0 < D.size := by omega
       have hpi : (0 : Int) < (D.size : Int) := by omega
       have hd0 := getD0 D hp
       have hb0 := byte_eq48 D[0]
       by_cases hz : D[0] = 48 ∧ 1 < D.size
       ·have ht0 : ((D[0].toNat : Int) == 48) = true := by rw [hb0]; simp [hz.1]
        obtain ⟨hz1, hz2⟩ := hz
        have hz3 := hd0.trans hz1
        have HN := hide (HPN.out (arcM_none (.inr (.inr (.inr ⟨hz3, by omega⟩)))))
        go_wp2_with fail
        go_ret2
        exact RefPost.none_ (by rw [HN.out]; rfl) (HBASE.out ▸ hb) rfl
       ·have hz' : (((D[0].toNat : Int) == 48) = false ∧ 1 < D.size) ∨ D.size ≤ 1 := by
         rw [hb0]
         by_cases e : D[0] = 48
         ·exact .inr (by have : ¬ 1 < D.size := fun h => hz ⟨e, h⟩; omega)
         ·rcases Nat.lt_or_ge 1 D.size with h | h
          ·exact .inl ⟨by simp [e], h⟩
          ·exact .inr h
        have HG := hide (arcG_dig D.data.toList (by omega) (by omega) (fun h => by rw [hd0] at h; have : ¬ 1 < D.size := fun h' => hz ⟨h, h'⟩; omega))
        clear hd0 hb0 hz
        by_cases h12 : out.length = 12
        ·rcases hz' with ⟨ht0, ht1⟩ | ht1
         ·have HN := hide (HPN.out (arcM_none (.inl h12)))
          go_wp2_with fail
          go_ret2
          exact RefPost.none_ (by rw [HN.out]; rfl) (HBASE.out ▸ hb) rfl
         ·have HN := hide (HPN.out (arcM_none (.inl h12)))
          go_wp2_with fail
          go_ret2
          exact RefPost.none_ (by rw [HN.out]; rfl) (HBASE.out ▸ hb) rfl
        ·have HM := hide (show arcM D.data.toList out.length = arcG D.data.toList by rw [arcM, if_neg h12])
         rcases hz' with ⟨ht0, ht1⟩ | ht1
         all_goals
          obtain ⟨wo, rfl⟩ : ∃ wo : World, wo = wr := ⟨_, rfl⟩
          have HB := hide hb
          have HOL := hide hol
          have hq0 : ((D.size : Int) == 0) = false := beq_false_of_ne (by omega)
          have hq12 : ((out.length : Int) == 12) = false := beq_false_of_ne (by omega)
          clear hb
          go_wp2_with fail
          go_loop [8, 9] (fun v i => ∃ (j n : Nat), j ≤ D.size ∧ n < 10000000000 ∧ i = .int .i64 j ∧ v = .int .i64 n ∧ Hid (n < 10 ^ j) ∧ Hid (arcG D.data.toList = arcK n (D.data.toList.drop j))) (fun _ i => D.size - (intOf i).toNat)
          case atStart => exact ⟨0, 0, by omega, by omega, rfl, rfl, hide (by omega), HG⟩
          case round =>
           obtain ⟨j, n, hj, hnb, rfl, rfl, HN, HA⟩ := hrel
           by_cases hlt' : j < D.size
           ·have HD := drop_string D j hlt'
            have hdg := isDig_le (HDIG.out _ (mem_byte D j hlt'))
            obtain ⟨c', hcc⟩ : ∃ c', D[j] = c' := ⟨_, rfl⟩
            rw [hcc] at HD hdg
            have HX := hide (show arcG D.data.toList = arcK (10 * n + (c'.toNat - 48)) (D.data.toList.drop (j + 1)) by rw [HA.out, HD, arcK, if_pos (by simp [isDig]; omega)])
            have hn9 := pow10_bd9 HN.out (by omega)
            have HN2 := hide (show 10 * n + (c'.toNat - 48) < 10 ^ (j + 1) by have := HN.out; rw [Nat.pow_succ]; omega)
            have hj0 : (0 : Int) ≤ (j : Int) := by omega
            have hjd : (j : Int) < (D.size : Int) := by omega
            obtain ⟨hd1, hd2⟩ := hdg
            clear HD
            go_wp2_with fail
            go_round
            case rel => exact ⟨j + 1, 10 * n + (c'.toNat - 48), by omega, by omega, by go_num, by go_num, HN2, HX⟩
            case measure => simp [intOf]; omega
           ·have HE := hide (drop_string_end D j (by omega))
            by_cases hbig : 2147483647 < n
            ·have HY := hide (HPN.out (by rw [HM.out, HA.out, HE.out, arcK, if_pos hbig]))
             go_wp2_with fail
             go_ret2
             exact RefPost.none_ (by rw [HY.out]; rfl) (HBASE.out ▸ HB.out) rfl
            ·have HY := hide (HPS.out n (by rw [HM.out, HA.out, HE.out, arcK, if_neg hbig]))
             go_wp2_with (at_builtin; refine wpList_app RNat.ok _ rfl (.tmp 79) (.tmp 81) 24 rfl base 3 (.int .i64 0) 8 Tryd.underlying24 info_int rfl (by decide) No _ out rfl (hown.alloc RNat.ok (no_lt _) _) ⟨_, 0, none⟩ 1 1 [n] rfl rfl (news_nats _ _ _ _ [n] rfl) (no_lt _) (by simp; omega) (by simp [maxLen]; omega) (by simp; omega) ?_; intro v2 w2 hown2 hg2 hb2 hat2; have hsz2 := hb2.size; simp at hsz2)
             go_roundw
             case rel => exact ⟨s.size + 1, s.size + 1, out ++ [n], by omega, by omega, by simp <;> omega, by go_num, (by first | rfl | go_num), hown2, (below_alloc HB.out hgs _).trans hb2, by omega, HY⟩
             case measure => simp [intOf] <;> omega
    ·have hterm : k = s.size ∨ ∃ h : k < s.size, s[k] = 46 := .inr ⟨hlt, hc⟩
     obtain ⟨c, hc'⟩ : ∃ c, s[k] = c := ⟨_, rfl⟩
     have ht : ((c.toNat : Int) != 46) = false := by rw [bne, show ((c.toNat : Int) == 46) = (c == 46) from byte_beq' c 46]; rw [hc'] at hc; simp [hc]
     clear hc
     have hlti : (k : Int) < (s.size : Int) := by omega
     have HT := hide hterm
     have hsl := slice_str (P := Tryd.prog) 9 Tryd.underlying9 s at_ k at_ k rfl rfl hat hle
     have hdig : ∀ c ∈ (s.extract at_ k).data.toList, isDig c = true := by
      rcases H.out with ⟨_, _, h, _⟩ | ⟨h, _⟩
      ·exact h
      ·omega
     have hsz := ba_size_ex s at_ k hle
     have HPN := hide (fun (h : arcM (s.extract at_ k).data.toList out.length = none) => H.out.pieceN HT.out h)
     have HPS := hide (fun v (h : arcM (s.extract at_ k).data.toList out.length = some v) => H.out.pieceS HT.out h)
     obtain ⟨D, hD⟩ : ∃ D, s.extract at_ k = D := ⟨_, rfl⟩
     rw [hD] at hsl hdig hsz HPN HPS
     have HDIG := hide hdig
     have hdl := size_string D
     clear hdig hD H HT hterm hsz
     have hk0 : (0 : Int) ≤ ((k : Nat) : Int) := by omega
     by_cases h0 : D.size = 0
     ·have HN := hide (HPN.out (arcM_none (.inr (.inl (by omega)))))
      go_wp2_with fail
      go_ret2
      exact RefPost.none_ (by rw [HN.out]; rfl) (HBASE.out ▸ hb) rfl
     ·by_cases h10 : 10 < D.size
      ·have HN := hide (HPN.out (arcM_none (.inr (.inr (.inl (by omega))))))
       go_wp2_with fail
       go_ret2
       exact RefPost.none_ (by rw [HN.out]; rfl) (HBASE.out ▸ hb) rfl
      ·have hp : 0 < D.size := by omega
       have hpi : (0 : Int) < (D.size : Int) := by omega
       have hd0 := getD0 D hp
       have hb0 := byte_eq48 D[0]
       by_cases hz : D[0] = 48 ∧ 1 < D.size
       ·have ht0 : ((D[0].toNat : Int) == 48) = true := by rw [hb0]; simp [hz.1]
        obtain ⟨hz1, hz2⟩ := hz
        have hz3 := hd0.trans hz1
        have HN := hide (HPN.out (arcM_none (.inr (.inr (.inr ⟨hz3, by omega⟩)))))
        go_wp2_with fail
        go_ret2
        exact RefPost.none_ (by rw [HN.out]; rfl) (HBASE.out ▸ hb) rfl
       ·have hz' : (((D[0].toNat : Int) == 48) = false ∧ 1 < D.size) ∨ D.size ≤ 1 := by
         rw [hb0]
         by_cases e : D[0] = 48
         ·exact .inr (by have : ¬ 1 < D.size := fun h => hz ⟨e, h⟩; omega)
         ·rcases Nat.lt_or_ge 1 D.size with h | h
          ·exact .inl ⟨by simp [e], h⟩
          ·exact .inr h
        have HG := hide (arcG_dig D.data.toList (by omega) (by omega) (fun h => by rw [hd0] at h; have : ¬ 1 < D.size := fun h' => hz ⟨h, h'⟩; omega))
        clear hd0 hb0 hz
        by_cases h12 : out.length = 12
        ·rcases hz' with ⟨ht0, ht1⟩ | ht1
         ·have HN := hide (HPN.out (arcM_none (.inl h12)))
          go_wp2_with fail
          go_ret2
          exact RefPost.none_ (by rw [HN.out]; rfl) (HBASE.out ▸ hb) rfl
         ·have HN := hide (HPN.out (arcM_none (.inl h12)))
          go_wp2_with fail
          go_ret2
          exact RefPost.none_ (by rw [HN.out]; rfl) (HBASE.out ▸ hb) rfl
        ·have HM := hide (show arcM D.data.toList out.length = arcG D.data.toList by rw [arcM, if_neg h12])
         rcases hz' with ⟨ht0, ht1⟩ | ht1
         all_goals
          obtain ⟨wo, rfl⟩ : ∃ wo : World, wo = wr := ⟨_, rfl⟩
          have HB := hide hb
          have HOL := hide hol
          have hq0 : ((D.size : Int) == 0) = false := beq_false_of_ne (by omega)
          have hq12 : ((out.length : Int) == 12) = false := beq_false_of_ne (by omega)
          clear hb
          go_wp2_with fail
          go_loop [8, 9] (fun v i => ∃ (j n : Nat), j ≤ D.size ∧ n < 10000000000 ∧ i = .int .i64 j ∧ v = .int .i64 n ∧ Hid (n < 10 ^ j) ∧ Hid (arcG D.data.toList = arcK n (D.data.toList.drop j))) (fun _ i => D.size - (intOf i).toNat)
          case atStart => exact ⟨0, 0, by omega, by omega, rfl, rfl, hide (by omega), HG⟩
          case round =>
           obtain ⟨j, n, hj, hnb, rfl, rfl, HN, HA⟩ := hrel
           by_cases hlt' : j < D.size
           ·have HD := drop_string D j hlt'
            have hdg := isDig_le (HDIG.out _ (mem_byte D j hlt'))
            obtain ⟨c', hcc⟩ : ∃ c', D[j] = c' := ⟨_, rfl⟩
            rw [hcc] at HD hdg
            have HX := hide (show arcG D.data.toList = arcK (10 * n + (c'.toNat - 48)) (D.data.toList.drop (j + 1)) by rw [HA.out, HD, arcK, if_pos (by simp [isDig]; omega)])
            have hn9 := pow10_bd9 HN.out (by omega)
            have HN2 := hide (show 10 * n + (c'.toNat - 48) < 10 ^ (j + 1) by have := HN.out; rw [Nat.pow_succ]; omega)
            have hj0 : (0 : Int) ≤ (j : Int) := by omega
            have hjd : (j : Int) < (D.size : Int) := by omega
            obtain ⟨hd1, hd2⟩ := hdg
            clear HD
            go_wp2_with fail
            go_round
            case rel => exact ⟨j + 1, 10 * n + (c'.toNat - 48), by omega, by omega, by go_num, by go_num, HN2, HX⟩
            case measure => simp [intOf]; omega
           ·have HE := hide (drop_string_end D j (by omega))
            by_cases hbig : 2147483647 < n
            ·have HY := hide (HPN.out (by rw [HM.out, HA.out, HE.out, arcK, if_pos hbig]))
             go_wp2_with fail
             go_ret2
             exact RefPost.none_ (by rw [HY.out]; rfl) (HBASE.out ▸ HB.out) rfl
            ·have HY := hide (HPS.out n (by rw [HM.out, HA.out, HE.out, arcK, if_neg hbig]))
             go_wp2_with (at_builtin; refine wpList_app RNat.ok _ rfl (.tmp 79) (.tmp 81) 24 rfl base 3 (.int .i64 0) 8 Tryd.underlying24 info_int rfl (by decide) No _ out rfl (hown.alloc RNat.ok (no_lt _) _) ⟨_, 0, none⟩ 1 1 [n] rfl rfl (news_nats _ _ _ _ [n] rfl) (no_lt _) (by simp; omega) (by simp [maxLen]; omega) (by simp; omega) ?_; intro v2 w2 hown2 hg2 hb2 hat2; have hsz2 := hb2.size; simp at hsz2)
             go_roundw
             case rel => exact ⟨k + 1, k + 1, out ++ [n], by omega, by omega, by simp <;> omega, by go_num, (by first | rfl | go_num), hown2, (below_alloc HB.out hgs _).trans hb2, by omega, HY⟩
             case measure => simp [intOf] <;> omega
  ·have hk' : k = s.size + 1 := by omega
   have hro : r = some out := by
    rcases H.out with ⟨h, _⟩ | ⟨_, h⟩
    ·omega
    ·exact h
   have HRO := hide (show r.bind refEnd = refEnd out by rw [hro]; rfl)
   have HB := hide hb
   clear hro hb H
   by_cases h2 : out.length < 2
   ·have HX := hide (show r.bind refEnd = none by rw [HRO.out, refEnd, if_pos (.inl h2)])
    go_wp2_with fail
    go_ret2
    exact RefPost.none_ HX.out (HBASE.out ▸ HB.out) rfl
   ·obtain ⟨g0, cap, hv, hbg, hgl, hgc, hgm, hc0⟩ := hown.natAt (i := 0) (by omega)
    obtain ⟨g1, cap1, hv1, _, _, _, _, hc1⟩ := hown.natAt (i := 1) (by omega)
    rw [hv] at hv1
    simp only [Value.slice.injEq, Option.some.injEq, Addr.mk.injEq, and_true, true_and] at hv1
    obtain ⟨rfl, rfl⟩ := hv1
    simp only [Value.slice.injEq, true_and] at hv
    obtain ⟨rfl, rfl⟩ := hv
    obtain ⟨a, ha⟩ : ∃ a, out[0]'(by omega) = a := ⟨_, rfl⟩
    obtain ⟨b, hb'⟩ : ∃ b, out[1]'(by omega) = b := ⟨_, rfl⟩
    have e0 : out.getD 0 0 = a := by rw [← ha]; simp [List.getD, List.getElem?_eq_getElem (show 0 < out.length by omega)]
    have e1 : out.getD 1 0 = b := by rw [← hb']; simp [List.getD, List.getElem?_eq_getElem (show 1 < out.length by omega)]
    rw [ha] at hc0
    rw [hb'] at hc1
    have HX := hide (HRO.out.trans (refEnd_eq h2 e0 e1))
    have HSL := hide ((Sl.ok RNat.ok).mono (hown.sl RNat.ok) (w' := wr) (S' := Lt wr.heap.size) (fun _ _ => rfl) (fun k hk => by rcases hk with h | h; exact h.elim; exact h.2))
    have hl1 : (1 : Int) < (out.length : Int) := by omega
    have hl0 : (0 : Int) < (out.length : Int) := by omega
    have HGB := hide (show w.heap.size ≤ g0 by have := HBASE.out; omega)
    clear e0 e1 ha hb' hown hgm
    by_cases ha2 : 2 < a
    ·have HY := hide (HX.out.trans (if_pos (.inl ha2)))
     go_wp2_with fail
     go_ret2
     exact RefPost.none_ HY.out (HBASE.out ▸ HB.out) rfl
    ·by_cases ha1 : a < 2
     ·by_cases hb9 : 39 < b
      ·have HY := hide (HX.out.trans (if_pos (.inr ⟨ha1, hb9⟩)))
       go_wp2_with fail
       go_ret2
       exact RefPost.none_ HY.out (HBASE.out ▸ HB.out) rfl
      ·have HY := hide (HX.out.trans (if_neg (by omega)))
       go_wp2_with fail
       go_ret2
       exact HY.out ▸ ⟨HBASE.out ▸ HB.out, g0, cp, rfl, HGB.out, HSL.out⟩
     ·have HY := hide (HX.out.trans (if_neg (by omega)))
      go_wp2_with fail
      go_ret2
      exact HY.out ▸ ⟨HBASE.out ▸ HB.out, g0, cp, rfl, HGB.out, HSL.out⟩
end Go.Proofs.YtmgnihmjjijdoaaDoor
namespace Go.Proofs.YtmgnihmjjijdoaaDoor
open Go.RowKit
theorem rarcs_p (s : ByteArray) (hs : s.size ≤ 1000000) (w : World) :
  Calls Tryd.prog 59 #[.string s] w (RefPost w (arcsP s.data.toList)) := by
 rw [← refP_arcsP]
 exact rarcs_any s hs w
end Go.Proofs.YtmgnihmjjijdoaaDoor
namespace Go.Proofs.YtmgnihmjjijdoaaDoor
open Go.RowKit Go.ChangeShapes Go.WideShapes Go.ChangeAt
open Go.ChangeMaps (open_string)
section
variable {H : Type} {enc : TypeId × Value → H} {P : Program} {W W' : World}
theorem trodAll_below (hl : laidOutB P = true) : ∀ (ts : List TypeId) (vs : List Value) (ds : List (DataW H)) (p : List MemPlace), (∀ t ∈ ts, P.readableRec t = true ∧ t < P.types.size) →
    DataW.TrodAll enc P W 0 (fun _ => true) true ts vs ds p → Below W.heap.size W W' → (∀ x ∈ p, x.block < W.heap.size) → DataW.TrodAll enc P W' 0 (fun b => decide (b < W.heap.size)) true ts vs ds p
  | [], [], [], p, _, h, _, _ => h
  | t :: ts, v :: vs, d :: ds, p, hr, h, hb, hlt => by
    obtain ⟨p1, q1, h1, h2, rfl⟩ := h
    have ht := hr t (by simp)
    exact ⟨p1, q1, Below.trod hl ht.1 ht.2 h1 hb (fun x hx => hlt x (by simp [hx])), trodAll_below hl ts vs ds q1 (fun t' ht' => hr t' (by simp [ht'])) h2 hb (fun x hx => hlt x (by simp [hx])), rfl⟩
  | [], [], _ :: _, _, _, h, _, _ => h.elim
  | [], _ :: _, _, _, _, h, _, _ => h.elim
  | _ :: _, [], _, _, _, h, _, _ => h.elim
  | _ :: _, _ :: _, [], _, _, h, _, _ => h.elim
theorem law_post {f : Func} {s : ChangeSpec} {args : Array Value} {ds gs : List (DataW H)} {before : List MemPlace} {tb : TypeId} (hl : laidOutB P = true) (hrd : ∀ t ∈ f.params.toList, P.readableRec t = true ∧ t < P.types.size)
  (hvars : s.vars = []) (hres : f.resultTypes = #[tb]) (htb : P.underlying tb = some .bool)
  (hW : DataW.Whole enc P f.params.toList s.vars false W args.toList ds gs before)
  (hfn : s.fn H (ds ++ gs) = { results := [.lit (.bool true)], args := ds }) (hb : Below W.heap.size W W') :
  s.post enc P f false true false false W args (.bool true) W' := by
 have hlt : ∀ x ∈ before, x.block < W.heap.size := fun x hx => hW.lt x hx
 have hW2 := hW
 obtain ⟨p, q, hA, hV, rfl, _, _⟩ := hW
 rw [hvars] at hV
 obtain ⟨rfl, rfl⟩ := trodVars_none hV
 rw [List.append_nil] at hlt
 refine ⟨ds, [], p ++ [], [], p, [], hW2, ?_, ?_, ?_, hb.frame _, fun h => by cases h⟩
 ·rw [hres, hfn]
  exact trodAll_mk1 (shut_bool htb true)
 ·rw [hfn]
  exact trodAll_below hl _ _ _ _ hrd hA hb hlt
 ·rw [hvars, hfn]
  exact rfl
end
end Go.Proofs.YtmgnihmjjijdoaaDoor
namespace Go.Proofs.YtmgnihmjjijdoaaDoor
open Go.RowKit Go.ChangeShapes Go.WideShapes Go.ChangeAt
section
variable {H : Type} {enc : TypeId × Value → H} {P : Program} {W W' : World}
abbrev RIntK (k : IntKind) : Rep Int := Pu (fun n => [.int k n])
theorem RIntK.ok (k : IntKind) : RepOk (RIntK k) 1 := Pu.ok (fun _ => rfl) (fun x u hu => by simp at hu; subst hu; rfl)
theorem open_intk {t e : TypeId} {k : IntKind} {v : Value} {d : DataW H} {p : List MemPlace} {base : Nat} (hu : P.underlying t = some (.slice e)) (he : P.underlying e = some (.int k)) (hc : P.cellsOf e = 1)
    (hval : Value.okWide P W .any base t v) (h : DataW.Trod enc P W 0 (fun _ => true) true t v d p) (_hlt : ∀ x ∈ p, x.block < W.heap.size) :
    ∃ l A n c, v = .slice A n c ∧ Sl (RIntK k) 1 W (Lt W.heap.size) l [.slice A n c] ∧ ∀ x ∈ l, (Lit.int k x).wf = true := by
  obtain ⟨A, n, c, rfl⟩ := okWide_slice hu hval
  obtain ⟨fuel, hf⟩ := h
  rcases open_ints hu he hc hf with ⟨hcs, _⟩ | ⟨a, len, cap, zs, hcs, _, hl, hm, hz, hx, hcell, hwf⟩
  · simp only [Value.cells, List.cons.injEq, Value.slice.injEq, and_true] at hcs
    obtain ⟨rfl, rfl, rfl⟩ := hcs
    exact ⟨[], none, 0, 0, rfl, Sl.nil _ _ _ _, fun x hx => by cases hx⟩
  · simp only [Value.cells, List.cons.injEq, Value.slice.injEq, and_true] at hcs
    obtain ⟨rfl, rfl, rfl⟩ := hcs
    simp only [if_true] at hz
    refine ⟨zs.take n, some a, n, c, rfl, ?_, fun x hx => hwf x (List.mem_of_mem_take hx)⟩
    have hlen : (zs.take n).length = n := by simp; omega
    refine ⟨some a, c, by rw [hlen], by rw [hlen]; exact hl, hm, fun h0 => ?_⟩
    rw [hlen] at h0
    obtain ⟨b, off, rfl, hc2⟩ := ints_at hcell (by omega)
    refine ⟨b, off, rfl, World.block_lt_of_cell? W _ (hc2 0 (by omega)), fun i x hx => ⟨_, rfl, fun j u hu => ?_⟩⟩
    have hin : i < n := by have := (List.getElem?_eq_some_iff.1 hx).1; rw [hlen] at this; exact this
    match j, hu with
    | 0, hu =>
      simp at hu
      subst hu
      rw [Nat.mul_one, Nat.add_zero, hc2 i (by omega)]
      rw [List.getElem?_take, if_pos hin] at hx
      simp [List.getD, hx]
end
theorem mx_of {W : World} (h : W.ShapedOpen Tryd.prog) : Mx W :=
 cell_of_shapedOpen_int (t := 3) (zero := #[.int .i64 0]) h (of_decide_eq_true (by kernel_rfl)) (by kernel_rfl) rfl (by kernel_rfl) (by kernel_rfl) Tryd.underlying3
end Go.Proofs.YtmgnihmjjijdoaaDoor
namespace Go.Proofs.YtmgnihmjjijdoaaDoor
open Go.RowKit Go.ChangeShapes Go.WideShapes Go.ChangeAt Go.Deep
section
variable {H : Type} {enc : TypeId × Value → H} {P : Program} {W : World}
end
end Go.Proofs.YtmgnihmjjijdoaaDoor
