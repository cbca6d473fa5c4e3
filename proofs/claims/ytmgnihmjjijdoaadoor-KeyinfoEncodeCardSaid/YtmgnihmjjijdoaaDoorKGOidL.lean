/- Plain laws: decimal digits and dotted texts; the arcs of a text determine it. -/
import Derived.Test.YtmgnihmjjijdoaaDoorKGSplit
import Derived.Test.YtmgnihmjjijdoaaDoorKGOidD
import Derived.Deep.LoopGhost
import Derived.Test.YtmgnihmjjijdoaaDoorKGTlvP
namespace Go.Proofs.YtmgnihmjjijdoaaDoor
open Go.RowKit
def valD (n : Nat) (l : List UInt8) : Nat := l.foldl (fun n (c : UInt8) => 10 * n + (c.toNat - 48)) n
theorem valD_nil (n : Nat) : valD n [] = n := rfl
theorem valD_cons (n : Nat) (c : UInt8) (r : List UInt8) : valD n (c :: r) = valD (10 * n + (c.toNat - 48)) r := by unfold valD; rw [List.foldl_cons]
theorem valD_snoc (l : List UInt8) (n : Nat) (c : UInt8) : valD n (l ++ [c]) = 10 * valD n l + (c.toNat - 48) := by unfold valD; rw [List.foldl_append, List.foldl_cons, List.foldl_nil]
theorem arcK_val : ∀ (l : List UInt8) (n : Nat), arcK n l = if l.all isDig then (if 2147483647 < valD n l then none else some (valD n l)) else none
  | [], n => by rw [arcK, valD_nil]; rfl
  | c :: r, n => by
    rw [arcK, List.all_cons, valD_cons]
    cases hc : isDig c
    · simp
    · rw [if_pos rfl, arcK_val r]; simp
theorem valD_pos : ∀ (l : List UInt8), l.all isDig = true → l ≠ [] → l.getD 0 0 ≠ 48 → 1 ≤ valD 0 l
  | [], _, h, _ => absurd rfl h
  | c :: r, ha, _, hc => by
    have hc' : c ≠ 48 := hc
    rw [List.all_cons, Bool.and_eq_true] at ha
    have hd : 48 ≤ (c.toNat : Int) ∧ (c.toNat : Int) ≤ 57 := by simpa [isDig] using ha.1
    have h49 : 1 ≤ c.toNat - 48 := by
      rcases Nat.lt_or_ge 48 c.toNat with h | h
      · omega
      · exact absurd (UInt8.toNat_inj.1 (show c.toNat = (48 : UInt8).toNat by show c.toNat = 48; omega)) hc'
    rw [valD_cons]
    have mono : ∀ (l : List UInt8) (n : Nat), n ≤ valD n l := fun l => by
      induction l with
      | nil => intro n; exact Nat.le_refl _
      | cons x l ih => intro n; rw [valD_cons]; exact Nat.le_trans (by omega) (ih _)
    exact Nat.le_trans (by omega) (mono r _)
theorem snoc_of_ne {α : Type} {l : List α} (h : l ≠ []) : ∃ a x, l = a ++ [x] := ⟨l.dropLast, l.getLast h, (List.dropLast_concat_getLast h).symm⟩
theorem dec_val : ∀ (k : Nat) (l : List UInt8), l.length = k → l.all isDig = true → l ≠ [] → (l.getD 0 0 = 48 → l.length ≤ 1) → l = decL (valD 0 l)
  | k, l, hk, ha, hne, hz => by
    obtain ⟨a, c, rfl⟩ := snoc_of_ne hne
    rw [List.all_append, Bool.and_eq_true] at ha
    have hd : 48 ≤ (c.toNat : Int) ∧ (c.toNat : Int) ≤ 57 := by simpa [isDig] using ha.2
    have hcc : UInt8.ofNat (48 + (c.toNat - 48)) = c := by
      rw [show 48 + (c.toNat - 48) = c.toNat by omega]; simp
    rw [valD_snoc]
    cases a with
    | nil =>
      rw [decL_small (show 10 * valD 0 [] + (c.toNat - 48) < 10 by rw [valD_nil]; omega)]
      rw [valD_nil, show 48 + (10 * 0 + (c.toNat - 48)) = 48 + (c.toNat - 48) by omega, hcc]; rfl
    | cons x a =>
      have hx : (x :: a).getD 0 0 ≠ 48 := by
        intro e
        have := hz e
        simp at this
      have h1 := valD_pos (x :: a) ha.1 (by simp) hx
      have ih := dec_val (x :: a).length (x :: a) rfl ha.1 (by simp) (fun e => absurd e hx)
      rw [decL_big (by omega), show (10 * valD 0 (x :: a) + (c.toNat - 48)) / 10 = valD 0 (x :: a) by omega, ← ih, show (10 * valD 0 (x :: a) + (c.toNat - 48)) % 10 = c.toNat - 48 by omega, hcc]
termination_by k => k
decreasing_by simp at hk ⊢; omega
theorem arcG_dec {d : List UInt8} {n : Nat} (h : arcG d = some n) : d = decL n := by
 unfold arcG at h
 split at h
 ·cases h
 ·rename_i hc
  rw [arcK_val] at h
  split at h
  ·rename_i ha
   split at h
   ·cases h
   ·cases h
    refine dec_val _ d rfl ha (fun e => hc (.inl (by rw [e]; rfl))) (fun e => ?_)
    rcases Nat.lt_or_ge 1 d.length with h1 | h1
    ·exact absurd (.inr (.inr ⟨e, h1⟩)) hc
    ·exact h1
  ·cases h
def joinC (c : UInt8) : List (List UInt8) → List UInt8
 | [] => []
 | [p] => p
 | p :: q :: r => p ++ c :: joinC c (q :: r)
theorem joinC_cons (c : UInt8) (p : List UInt8) {r : List (List UInt8)} (h : r ≠ []) : joinC c (p :: r) = p ++ c :: joinC c r := by
 cases r with
 | nil => exact absurd rfl h
 | cons q r => rfl
theorem joinC_split (c : UInt8) : ∀ s, joinC c (splitC c s) = s
  | [] => rfl
  | x :: r => by
    have ih := joinC_split c r
    have hne := splitC_ne c r
    unfold splitC
    split
    · rename_i hx
      rw [joinC_cons c [] hne, ih, hx]; rfl
    · split
      · rename_i h; exact absurd h hne
      · rename_i p ps h
        rw [h] at ih
        cases ps with
        | nil => simp only [joinC] at ih ⊢; rw [ih]
        | cons q ps => simp only [joinC, List.cons_append] at ih ⊢; rw [ih]
def showL (l : List Nat) : List UInt8 := joinC 46 (l.map decL)
theorem arcsL_dec : ∀ (ps : List (List UInt8)) (l : List Nat), arcsL ps = some l → ps = l.map decL
  | [], l, h => by cases h; rfl
  | p :: ps, l, h => by
    obtain ⟨v, hv, h0⟩ := Option.bind_eq_some_iff.1 h
    obtain ⟨l', h1, rfl⟩ := Option.map_eq_some_iff.1 h0
    rw [List.map_cons, arcG_dec hv, ← arcsL_dec ps l' h1]
def ValidA (l : List Nat) : Prop := 2 ≤ l.length ∧ l.length ≤ 12 ∧ (∀ n ∈ l, n ≤ 2147483647) ∧ rootB (l.getD 0 0) (l.getD 1 0) = true
theorem arcsP_show {s : List UInt8} {l : List Nat} (h : arcsP s = some l) : s = showL l := by
 unfold arcsP at h
 split at h
 ·cases h
 ·obtain ⟨h1, _⟩ := rootL_some h
  rw [showL, ← arcsL_dec _ _ h1, joinC_split]
end Go.Proofs.YtmgnihmjjijdoaaDoor
namespace Go.Proofs.YtmgnihmjjijdoaaDoor
open Go.RowKit
def numK : Bool → Nat → List UInt8 → Option (List Nat)
 | o, _, [] => if o then none else some []
 | o, n, c :: r => if o = false ∧ c = 128 then none else
   if 4294967294 < n * 128 + c.toNat % 128 then none else
   if c.toNat < 128 then (numK false 0 r).map ((n * 128 + c.toNat % 128) :: ·) else numK true (n * 128 + c.toNat % 128) r
def numP (s : List UInt8) : List Nat := (numK false 0 s).getD []
theorem i64_or_shift (a b : Nat) (ha : a ≤ 4294967296) (hb : b < 128) : bits .or .i64 ((a : Int) * 128) (b : Int) = ((a * 128 + b : Nat) : Int) := by
 have h := i64_or_nat (a * 128) b (by omega) (by omega)
 have e : a * 128 ||| b = a * 128 + b := by
  have := Nat.shiftLeft_add_eq_or_of_lt (i := 7) (show b < 2 ^ 7 by omega) a
  rw [Nat.shiftLeft_eq] at this
  exact this.symm
 rw [e] at h
 rw [← h]
 rfl
set_option maxRecDepth 100000 in
set_option maxHeartbeats 4000000 in
theorem numbers_any (s : ByteArray) (hs : s.size ≤ 1000000) (w : World) :
  Calls Tryd.prog 62 #[.string s] w fun e w' => ∃ v, e = .returned v ∧ Sl RNat 1 w' (Lt w'.heap.size) (numP s.data.toList) [v] ∧ Below w.heap.size w w' := by
 obtain ⟨r, hr⟩ : ∃ r, r = numK false 0 s.data.toList := ⟨_, rfl⟩
 rw [numP, ← hr]
 have HR := hide hr
 clear hr
 obtain ⟨base, hbase, HBASE⟩ : ∃ base, base ≤ w.heap.size ∧ Hid (base = w.heap.size) := ⟨_, Nat.le_refl _, rfl⟩
 go_enter Tryd.func62, Tryd.ntmps62
 go_wp2_with fail
 go_step3
 go_wp2_with fail
 go_step3
 go_wp2_with fail
 go_loopg [3, 4] s.size (fun g v i wr => ∃ (k : Nat) (out : List Nat), k + g = s.size ∧ out.length ≤ k ∧ i = .int .i64 k ∧ Own RNat 1 3 wr base No v out ∧ Below base w wr ∧ base ≤ wr.heap.size ∧ Hid (r = (numK false 0 (s.data.toList.drop k)).map (out ++ ·)))
 case atStart => exact ⟨0, [], by omega, by simp, rfl, Own.nil _ _ _ _ _ _, Below.refl _ _, hbase, hide (by rw [HR.out]; simp)⟩
 case round =>
  obtain ⟨k, out, hk, hol, rfl, hown, hb, hgs, H⟩ := hrel
  by_cases hlt : k < s.size
  ·have HD := drop_string s k hlt
   obtain ⟨c, hc⟩ : ∃ c, s[k] = c := ⟨_, rfl⟩
   have HC := hide hc
   rw [hc] at HD
   have HD2 := hide HD
   clear HD
   have hk0 : (0 : Int) ≤ (k : Int) := by omega
   have hks : (k : Int) < (s.size : Int) := by omega
   have hcl := byte_lt c
   by_cases h128 : c = 128
   ·have ht : ((c.toNat : Int) == 128) = true := by simp [h128]
    have HX := hide (show r = none by rw [H.out, HD2.out, numK, if_pos ⟨rfl, h128⟩]; rfl)
    clear h128
    go_wp2_with fail
    (try rw [Exit.noGoto_ret])
    go_ret
    exact ⟨_, rfl, by rw [HX.out]; exact Sl.nil _ _ _ _, HBASE.out ▸ hb⟩
   ·have ht : ((c.toNat : Int) == 128) = false := by rw [show ((c.toNat : Int) == 128) = (c == 128) from byte_beq' c 128]; simp [h128]
    have H128 := hide h128
    clear h128
    obtain ⟨A, cp, hv⟩ := (hown.sl RNat.ok).shape
    subst hv
    obtain ⟨wo, rfl⟩ : ∃ wo : World, wo = wr := ⟨_, rfl⟩
    go_wp2_with fail
    go_loopg [3, 4, 5] (s.size - k) (fun g2 v3 i nn wx => ∃ (j n : Nat) (o : Bool), wx = wo ∧ v3 = .slice A out.length cp ∧ j + g2 = s.size ∧ k ≤ j ∧ n ≤ 4294967294 ∧ i = .int .i64 j ∧ nn = .int .i64 n ∧ Hid (o = true ∨ (j = k ∧ o = false)) ∧ Hid (r = (numK o n (s.data.toList.drop j)).map (out ++ ·)))
    case atStart => exact ⟨k, 0, false, rfl, rfl, by omega, by omega, by omega, rfl, rfl, hide (.inr ⟨rfl, rfl⟩), H⟩
    case round =>
     obtain ⟨j, n, o, rfl, rfl, hj, hkj, hn, rfl, rfl, HO, HA⟩ := hrel
     by_cases hlt2 : j < s.size
     ·have HD3 := drop_string s j hlt2
      obtain ⟨x, hx⟩ : ∃ x, s[j] = x := ⟨_, rfl⟩
      have hnot : ¬ (o = false ∧ x = 128) := by
       rintro ⟨rfl, rfl⟩
       rcases HO.out with h | ⟨h, _⟩
       ·cases h
       ·subst h; rw [HC.out] at hx; exact H128.out hx
      rw [hx] at HD3
      have HX := hide (show r = (if 4294967294 < n * 128 + x.toNat % 128 then none else if x.toNat < 128 then (numK false 0 (s.data.toList.drop (j + 1))).map ((n * 128 + x.toNat % 128) :: ·) else numK true (n * 128 + x.toNat % 128) (s.data.toList.drop (j + 1))).map (out ++ ·) by rw [HA.out, HD3, numK, if_neg hnot])
      clear HD3 hnot
      have hxl := byte_lt x
      have ha := i64_and127 x.toNat (by omega)
      have ho := i64_or_shift n (x.toNat % 128) (by omega) (by omega)
      obtain ⟨m, hm⟩ : ∃ m, n * 128 + x.toNat % 128 = m := ⟨_, rfl⟩
      rw [hm] at HX ho
      rw [show ((x.toNat % 128 : Nat) : Int) = (x.toNat : Int) % 128 by omega] at ho
      have hj0 : (0 : Int) ≤ (j : Int) := by omega
      have hjs : (j : Int) < (s.size : Int) := by omega
      have hmb : m ≤ 4294967294 * 128 + 128 := by omega
      clear hm
      by_cases hbig : 4294967294 < m
      ·have HY := hide (show r = none by rw [HX.out, if_pos hbig]; rfl)
       go_wp2_with fail
       (try rw [Exit.noGoto_ret])
       go_ret
       exact ⟨_, rfl, by rw [HY.out]; exact Sl.nil _ _ _ _, HBASE.out ▸ hb⟩
      ·by_cases hx7 : x.toNat < 128
       ·have HY := hide (show r = (numK false 0 (s.data.toList.drop (j + 1))).map ((out ++ [m]) ++ ·) by
         rw [HX.out, if_neg hbig, if_pos hx7, Option.map_map]; congr 1; funext z; simp)
        go_wp2_with (at_builtin; refine wpList_app RNat.ok _ rfl (.tmp 34) (.tmp 36) 24 rfl base 3 (.int .i64 0) 8 Tryd.underlying24 info_int rfl (by decide) No _ out rfl (hown.alloc RNat.ok (no_lt _) _) ⟨_, 0, none⟩ 1 1 [m] rfl rfl (news_nats _ _ _ _ [m] rfl) (no_lt _) (by simp; omega) (by simp [maxLen]; omega) (by simp; omega) ?_; intro v2 w2 hown2 hg2 hb2 hat2; have hsz2 := hb2.size; simp at hsz2)
        go_roundg (s.size - (j + 1))
        case rel => exact ⟨j + 1, out ++ [m], by omega, by simp; omega, by go_num, hown2, (below_alloc hb hgs _).trans hb2, by omega, HY⟩
        case measure => omega
       ·have HY := hide (show r = (numK true m (s.data.toList.drop (j + 1))).map (out ++ ·) by rw [HX.out, if_neg hbig, if_neg hx7])
        go_wp2_with fail
        go_roundg (s.size - (j + 1))
        case rel => exact ⟨j + 1, m, true, rfl, rfl, by omega, by omega, by omega, by go_num, rfl, hide (.inl rfl), HY⟩
        case measure => omega
     ·have ho : o = true := by
       rcases HO.out with h | ⟨h, _⟩
       ·exact h
       ·omega
      have HY := hide (show r = none by rw [HA.out, drop_string_end s j (by omega), ho, numK]; rfl)
      go_wp2_with fail
      (try rw [Exit.noGoto_ret])
      go_ret
      exact ⟨_, rfl, by rw [HY.out]; exact Sl.nil _ _ _ _, HBASE.out ▸ hb⟩
  ·have HX := hide (show r = some out by rw [H.out, drop_string_end s k (by omega), numK]; simp)
   go_wp2_with fail
   (try rw [Exit.noGoto_ret])
   go_ret
   exact ⟨_, rfl, by rw [HX.out]; exact (Sl.ok RNat.ok).mono (hown.sl RNat.ok) (fun _ _ => rfl) (fun k hk => by rcases hk with h | h; exact h.elim; exact h.2), HBASE.out ▸ hb⟩
end Go.Proofs.YtmgnihmjjijdoaaDoor
namespace Go.Proofs.YtmgnihmjjijdoaaDoor
open Go.RowKit
theorem numK_nil (o : Bool) (n : Nat) : numK o n [] = if o then none else some [] := rfl
theorem numK_hi : ∀ k : Nat, 1 ≤ k → k ≤ 33554431 → ∀ r, numK false 0 (hiL k ++ r) = numK true k r := by
  intro k
  induction k using Nat.strongRecOn with
  | ind k ih =>
    intro h1 h2 r
    have hb : (UInt8.ofNat (k % 128 + 128)).toNat = k % 128 + 128 := by have := ofNat_byte (k % 128 + 128) (by omega); omega
    rw [hiL_pos h1, List.append_assoc, List.singleton_append]
    by_cases h : k / 128 = 0
    · have hne : ¬ (false = false ∧ UInt8.ofNat (k % 128 + 128) = 128) := by
        rintro ⟨_, e⟩
        rw [e] at hb
        have : (128 : UInt8).toNat = 128 := rfl
        omega
      rw [h, hiL_zero, List.nil_append, numK, if_neg hne, hb, if_neg (by omega), if_neg (by omega)]
      congr 1
      omega
    · rw [ih (k / 128) (by omega) (by omega) (by omega), numK, if_neg (by simp), hb, if_neg (by omega), if_neg (by omega)]
      congr 1
      omega
theorem numK_put (n : Nat) (h : n ≤ 4294967294) (r : List UInt8) : numK false 0 (putL n ++ r) = (numK false 0 r).map (n :: ·) := by
 have hb : (UInt8.ofNat (n % 128)).toNat = n % 128 := by have := ofNat_byte (n % 128) (by omega); omega
 rw [putL, List.append_assoc, List.singleton_append]
 by_cases h0 : n / 128 = 0
 ·have hne : ¬ (false = false ∧ UInt8.ofNat (n % 128) = 128) := by
   rintro ⟨_, e⟩
   rw [e] at hb
   have : (128 : UInt8).toNat = 128 := rfl
   omega
  rw [h0, hiL_zero, List.nil_append, numK, if_neg hne, hb, if_neg (by omega), if_pos (by omega), show 0 * 128 + n % 128 % 128 = n by omega]
 ·rw [numK_hi _ (by omega) (by omega), numK, if_neg (by simp), hb, if_neg (by omega), if_pos (by omega), show n / 128 * 128 + n % 128 % 128 = n by omega]
theorem numK_flat : ∀ l : List Nat, (∀ n ∈ l, n ≤ 4294967294) → numK false 0 (l.flatMap putL) = some l
  | [], _ => rfl
  | n :: l, h => by
    rw [List.flatMap_cons, numK_put n (h n (by simp)), numK_flat l (fun m hm => h m (by simp [hm]))]; rfl
theorem numK_bd : ∀ (r : List UInt8) (o : Bool) (n : Nat) (l : List Nat), numK o n r = some l → ∀ m ∈ l, m ≤ 4294967294
  | [], o, n, l, h => by
    rw [numK_nil] at h
    cases o <;> cases h
    intro m hm; cases hm
  | c :: r, o, n, l, h => by
    rw [numK] at h
    split at h
    · cases h
    · split at h
      · cases h
      · split at h
        · obtain ⟨l', h3, rfl⟩ := Option.map_eq_some_iff.1 h
          intro m hm
          rcases List.mem_cons.1 hm with rfl | hm
          · omega
          · exact numK_bd r _ _ l' h3 m hm
        · exact numK_bd r _ _ l h
def firstA (v : Nat) : Nat := min (v / 40) 2
def expandL : List Nat → List Nat
 | [] => []
 | v :: r => firstA v :: (v - 40 * firstA v) :: r
def decP (c : List UInt8) : Option (List UInt8) :=
 if (numP c).length = 0 ∨ 11 < (numP c).length then none else if ∀ n ∈ expandL (numP c), n ≤ 2147483647 then some (showL (expandL (numP c))) else none
instance (l : List Nat) : Decidable (ValidA l) := by unfold ValidA; infer_instance
def finL (l : List Nat) : Option (List UInt8) := if l ≠ [] ∧ ValidA (expandL l) then some (showL (expandL l)) else none
theorem expandL_len {l : List Nat} (h : l ≠ []) : (expandL l).length = l.length + 1 := by
 cases l with
 | nil => exact absurd rfl h
 | cons v r => rfl
theorem expandL_root {l : List Nat} (h : l ≠ []) : rootB ((expandL l).getD 0 0) ((expandL l).getD 1 0) = true := by
  cases l with
  | nil => exact absurd rfl h
  | cons v r =>
    show rootB (firstA v) (v - 40 * firstA v) = true
    unfold rootB firstA
    simp
    omega
theorem valid_expand {l : List Nat} (h : l ≠ []) : ValidA (expandL l) ↔ l.length ≤ 11 ∧ ∀ n ∈ expandL l, n ≤ 2147483647 := by
 unfold ValidA
 rw [expandL_len h, expandL_root h]
 have : 0 < l.length := List.length_pos_iff.2 h
 constructor
 ·rintro ⟨_, h2, h3, _⟩; exact ⟨by omega, h3⟩
 ·rintro ⟨h2, h3⟩; exact ⟨by omega, by omega, h3, rfl⟩
theorem decP_fin (c : List UInt8) : decP c = (numK false 0 c).bind finL := by
  unfold decP numP
  cases h : numK false 0 c with
  | none => rfl
  | some l =>
    simp only [Option.getD_some, Option.bind_some, finL]
    by_cases h0 : l = []
    · rw [if_pos (.inl (by rw [h0]; rfl)), if_neg (fun hh => hh.1 h0)]
    · have hl : 0 < l.length := List.length_pos_iff.2 h0
      by_cases h11 : 11 < l.length
      · rw [if_pos (.inr h11), if_neg (fun hh => by have := (valid_expand h0).1 hh.2; omega)]
      · rw [if_neg (by omega)]
        by_cases ha : ∀ n ∈ expandL l, n ≤ 2147483647
        · rw [if_pos ha, if_pos ⟨h0, (valid_expand h0).2 ⟨by omega, ha⟩⟩]
        · rw [if_neg ha, if_neg (fun hh => ha ((valid_expand h0).1 hh.2).2)]
theorem decP_enc {L : List Nat} (h : ValidA L) : decP (encL L) = some (showL L) := by
  obtain ⟨h1, h2, h3, h4⟩ := h
  match L, h1, h2, h3, h4 with
  | a :: b :: r, h1, h2, h3, h4 =>
    have e : encL (a :: b :: r) = ((40 * a + b) :: r).flatMap putL := by rw [encL, List.flatMap_cons]; rfl
    have ha := h3 a (by simp)
    have hb := h3 b (by simp)
    have hr : rootB a b = true := h4
    have hr' : (a ≤ 1 ∧ b ≤ 39) ∨ a = 2 := by simpa [rootB] using hr
    have hf : firstA (40 * a + b) = a := by unfold firstA; omega
    rw [decP_fin, e, numK_flat _ (fun n hn => by
      rcases List.mem_cons.1 hn with rfl | hn
      · omega
      · have := h3 n (by simp [hn]); omega), Option.bind_some, finL]
    have hx : expandL ((40 * a + b) :: r) = a :: b :: r := by
      rw [expandL, hf, show 40 * a + b - 40 * a = b by omega]
    rw [hx, if_pos ⟨by simp, h1, h2, h3, h4⟩]
theorem decL_dig (u : Nat) : Lib.decDigits u = decL u := by
  induction u using Nat.strongRecOn with
  | ind u ih =>
    rw [Lib.decDigits, decL]
    split
    · rfl
    · rw [ih (u / 10) (by omega)]
end Go.Proofs.YtmgnihmjjijdoaaDoor
namespace Go.Proofs.YtmgnihmjjijdoaaDoor
open Go.RowKit
def idW (s : List UInt8) : List UInt8 := wrapW 6 ((encP s).getD [])
theorem dec_enc {s c : List UInt8} (h : encP s = some c) : decP c = some s := by
 unfold encP at h
 obtain ⟨l, h1, rfl⟩ := Option.map_eq_some_iff.1 h
 have hs := arcsP_show h1
 subst hs
 exact decP_enc (arcsP_some h1)
theorem encP_valid {s : List UInt8} (h : validB s = true) : ∃ c, encP s = some c ∧ c.length ≤ 1000 := by
  unfold validB at h
  cases ha : arcsP s with
  | none => rw [ha] at h; cases h
  | some l =>
    refine ⟨encL l, by rw [encP, ha]; rfl, ?_⟩
    obtain ⟨h1, h12, h3, h4⟩ := arcsP_some ha
    have hr := rootB_le h4
    have hf : ∀ r : List Nat, (∀ n ∈ r, n ≤ 2147483647) → (r.flatMap putL).length ≤ 6 * r.length := by
      intro r
      induction r with
      | nil => intro _; simp
      | cons n r ih =>
        intro h
        have := ih (fun m hm => h m (by simp [hm]))
        have := putL_len n (by have := h n (by simp); omega)
        rw [List.flatMap_cons, List.length_append, List.length_cons]
        omega
    have hb : l.getD 1 0 ≤ 2147483647 := by
      rw [List.getD, List.getElem?_eq_getElem (show 1 < l.length by omega)]
      exact h3 _ (List.getElem_mem _)
    have := hf (l.drop 2) (fun n hn => h3 n (List.mem_of_mem_drop hn))
    have := putL_len (40 * l.getD 0 0 + l.getD 1 0) (by omega)
    rw [encL, List.length_append]
    rw [List.length_drop] at *
    omega
end Go.Proofs.YtmgnihmjjijdoaaDoor
