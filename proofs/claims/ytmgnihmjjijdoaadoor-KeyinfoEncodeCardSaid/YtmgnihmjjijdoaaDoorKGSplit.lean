/- Plain law: strings.Split at a separator of one byte is the splitting of the bytes at that byte. -/
import Derived.Test.YtmgnihmjjijdoaaDoorKLib
import Derived.Lib.SplitLaws
import Derived.Lib.IndexBytes
import Derived.Test.YtmgnihmjjijdoaaDoorKShelf
import Derived.Laws.AppendOwnNone
import Derived.Laws.BitsAllLaws
import Derived.Laws.ShiftsVarLaws
import Derived.WalkSpells
namespace Go.Proofs.YtmgnihmjjijdoaaDoor
open Go.RowKit
theorem byte_beq' (a b : UInt8) : ((a.toNat : Int) == (b.toNat : Int)) = (a == b) := by
 rw [Bool.eq_iff_iff]
 simp only [beq_iff_eq]
 constructor
 ·intro h
  exact UInt8.toNat_inj.1 (by omega)
 ·rintro rfl; rfl
def splitC (c : UInt8) : List UInt8 → List (List UInt8)
  | [] => [[]]
  | x :: r => if x = c then [] :: splitC c r else match splitC c r with
    | [] => [[x]]
    | p :: ps => (x :: p) :: ps
theorem splitC_ne (c : UInt8) : ∀ l, splitC c l ≠ []
  | [] => by simp [splitC]
  | x :: r => by
    unfold splitC
    split
    · simp
    · split <;> simp
theorem indexByte_hit (c : UInt8) (r : List UInt8) : Lib.indexByte (c :: r) c = 0 := by simp [Lib.indexByte]
theorem indexByte_no {x c : UInt8} {r : List UInt8} (hx : x ≠ c) (hr : Lib.indexByte r c = -1) : Lib.indexByte (x :: r) c = -1 := by simp [Lib.indexByte, hx, hr]
theorem indexByte_go {x c : UInt8} {r : List UInt8} (hx : x ≠ c) (hr : Lib.indexByte r c ≠ -1) : Lib.indexByte (x :: r) c = Lib.indexByte r c + 1 := by simp [Lib.indexByte, hx, hr]
theorem splitC_index (c : UInt8) : ∀ l : List UInt8, splitC c l = if Lib.indexByte l c = -1 then [l] else l.take (Lib.indexByte l c).toNat :: splitC c (l.drop ((Lib.indexByte l c).toNat + 1))
  | [] => by simp [splitC, Lib.indexByte]
  | x :: r => by
    have ih := splitC_index c r
    have hge := Lib.indexByte_ge r c
    rw [splitC]
    by_cases hx : x = c
    · subst hx
      rw [if_pos rfl, indexByte_hit]
      rfl
    · rw [if_neg hx]
      by_cases hr : Lib.indexByte r c = -1
      · rw [if_pos hr] at ih
        rw [indexByte_no hx hr, if_pos rfl, ih]
      · rw [if_neg hr] at ih
        rw [indexByte_go hx hr, if_neg (by omega), ih]
        have e1 : (Lib.indexByte r c + 1).toNat = (Lib.indexByte r c).toNat + 1 := by omega
        rw [e1, List.take_succ_cons, List.drop_succ_cons]
theorem splitK_C (c : UInt8) : ∀ (n : Nat) (l : List UInt8), Lib.count l [c] = n → Lib.splitK [c] 0 n l = splitC c l
  | n, l, h => by
    rw [splitC_index]
    by_cases hi : Lib.indexByte l c = -1
    · rw [if_pos hi]
      have h0 : Lib.count l [c] = 0 := Lib.count_miss (by rw [Lib.index_one]; exact hi)
      have : n = 0 := by omega
      subst this
      rfl
    · rw [if_neg hi]
      have hge := Lib.indexByte_ge l c
      have hh := Lib.count_hit (s := l) (sub := [c]) (i := (Lib.indexByte l c).toNat) (by simp) (by rw [Lib.index_one]; omega)
      match n, h with
      | 0, h => omega
      | n + 1, h =>
        have ih := splitK_C c n (l.drop ((Lib.indexByte l c).toNat + 1)) (by rw [show [c].length = 1 from rfl] at hh; omega)
        rw [Lib.splitK, Lib.index_one, if_neg (by simpa using hi)]
        simp only [List.length_cons, List.length_nil, Nat.zero_add, Nat.add_zero]
        rw [ih]
theorem splitB_C (c : UInt8) (s : ByteArray) : (Lib.splitB ⟨#[c]⟩ 0 (Lib.countB s ⟨#[c]⟩) s).map (·.data.toList) = splitC c s.data.toList := by
 rw [Lib.splitB_data]
 exact splitK_C c _ s.data.toList rfl
theorem splitB_len (c : UInt8) (s : ByteArray) : (Lib.splitB ⟨#[c]⟩ 0 (Lib.countB s ⟨#[c]⟩) s).length = Lib.countB s ⟨#[c]⟩ + 1 :=
 Lib.splitB_all ⟨#[c]⟩ (Nat.le_refl 1) 0 _ s rfl
theorem splitC_total (c : UInt8) : ∀ l, ((splitC c l).map List.length).sum ≤ l.length
  | [] => by simp [splitC]
  | x :: r => by
    have ih := splitC_total c r
    unfold splitC
    split
    · simp; omega
    · split
      · rename_i h; exact absurd h (splitC_ne c r)
      · rename_i p ps h
        rw [h] at ih
        simp at ih ⊢
        omega
theorem splitC_len (c : UInt8) : ∀ l, (splitC c l).length ≤ l.length + 1
  | [] => by simp [splitC]
  | x :: r => by
    have ih := splitC_len c r
    unfold splitC
    split
    · simp; omega
    · split
      · simp
      · rename_i p ps h
        rw [h] at ih
        simp at ih ⊢
        omega
theorem splitC_mem_len (c : UInt8) (l p : List UInt8) (h : p ∈ splitC c l) : p.length ≤ l.length := by
  have h1 := splitC_total c l
  have h2 : p.length ≤ ((splitC c l).map List.length).sum := by
    generalize splitC c l = L at h
    clear h1
    induction L with
    | nil => cases h
    | cons q L ih =>
      rcases List.mem_cons.1 h with rfl | h
      · simp
      · have := ih h; simp; omega
  omega
end Go.Proofs.YtmgnihmjjijdoaaDoor
namespace Go.Proofs.YtmgnihmjjijdoaaDoor
open Go.RowKit
def isDig (c : UInt8) : Bool := decide (48 ≤ (c.toNat : Int)) && decide ((c.toNat : Int) ≤ 57)
def arcK : Nat → List UInt8 → Option Nat
 | n, [] => if 2147483647 < n then none else some n
 | n, c :: r => if isDig c then arcK (10 * n + (c.toNat - 48)) r else none
def arcG (d : List UInt8) : Option Nat :=
 if d.length = 0 ∨ 10 < d.length ∨ (d.getD 0 0 = 48 ∧ 1 < d.length) then none else arcK 0 d
def arcI (o : Option Nat) : Int := match o with | none => -1 | some n => (n : Int)
theorem byte_eq48 (c : UInt8) : ((c.toNat : Int) == 48) = (c == 48) := byte_beq' c 48
theorem arcK_le : ∀ (l : List UInt8) (n v : Nat), arcK n l = some v → v ≤ 2147483647
  | [], n, v, h => by unfold arcK at h; split at h <;> simp at h; omega
  | c :: r, n, v, h => by
    unfold arcK at h
    split at h
    · exact arcK_le r _ v h
    · cases h
theorem arcG_le (d : List UInt8) (v : Nat) (h : arcG d = some v) : v ≤ 2147483647 := by
 unfold arcG at h
 split at h
 ·cases h
 ·exact arcK_le d 0 v h
theorem pow10_bd9 {n k : Nat} (h : n < 10 ^ k) (hk : k ≤ 9) : n < 1000000000 := by
 have := Nat.pow_le_pow_right (n := 10) (by omega) hk
 omega
set_option maxHeartbeats 2000000 in
theorem arc_any (s : ByteArray) (hs : s.size ≤ 1000000) (w : World) :
  Calls Tryd.prog 55 #[.string s] w fun e w' => e = .returned (.int .i64 (arcI (arcG s.data.toList))) ∧ w = w' := by
 have hsz := size_string s
 by_cases h0 : s.size = 0
 ·have HR := hide (show arcG s.data.toList = none by rw [arcG, if_pos (.inl (by omega))])
  have hem : s.toList = [] := by rw [ByteArray.toList_eq]; exact List.eq_nil_of_length_eq_zero (by omega)
  rw [HR.out]
  clear hsz h0
  go_enter Tryd.func55, Tryd.ntmps55
  go_wp2_with fail
  go_ret
  exact ⟨rfl, rfl⟩
 ·have hem : s.toList ≠ [] := by rw [ByteArray.toList_eq]; intro e; rw [e] at hsz; simp at hsz; omega
  have hem1 : (s.toList == []) = false := by simpa using hem
  have hem2 : s.toList.isEmpty = false := by simpa using hem
  clear hem
  by_cases h10 : 10 < s.size
  ·have HR := hide (show arcG s.data.toList = none by rw [arcG, if_pos (.inr (.inl (by omega)))])
   rw [HR.out]
   clear hsz
   go_enter Tryd.func55, Tryd.ntmps55
   go_wp2_with fail
   go_ret
   exact ⟨rfl, rfl⟩
  ·have hp : 0 < s.size := by omega
   have hd0 : s.data.toList.getD 0 0 = s[0] := by
    have := drop_string s 0 hp
    rw [List.drop_zero] at this
    rw [this]; rfl
   have hb0 := byte_eq48 s[0]
   have hpi : (0 : Int) < (s.size : Int) := by omega
   by_cases hz : s[0] = 48 ∧ 1 < s.size
   ·have HR := hide (show arcG s.data.toList = none by rw [arcG, if_pos (.inr (.inr ⟨by rw [hd0]; exact hz.1, by omega⟩))])
    have ht : ((s[0].toNat : Int) == 48) = true := by rw [hb0]; simp [hz.1]
    obtain ⟨_, hz2⟩ := hz
    rw [HR.out]
    clear hsz hb0 hd0 h0
    go_enter Tryd.func55, Tryd.ntmps55
    go_wp2_with fail
    go_ret
    exact ⟨rfl, rfl⟩
   ·have HR := hide (show arcG s.data.toList = arcK 0 s.data.toList by
     rw [arcG, if_neg]
     rw [hsz, hd0]
     rintro (h | h | h)
     ·omega
     ·omega
     ·exact hz h)
    rw [HR.out]
    obtain ⟨r, hr⟩ : ∃ r, r = arcK 0 s.data.toList := ⟨_, rfl⟩
    rw [← hr]
    have HR2 := hide hr
    have hz' : ((s[0].toNat : Int) == 48) = false ∨ (((s[0].toNat : Int) == 48) = true ∧ s.size ≤ 1) := by
     rw [hb0]
     by_cases e : s[0] = 48
     ·exact .inr ⟨by simp [e], by have : ¬ 1 < s.size := fun h => hz ⟨e, h⟩; omega⟩
     ·exact .inl (by simp [e])
    clear hsz hb0 hd0 hz hr h0
    rcases hz' with ht | ⟨ht, ht2⟩
    all_goals
     go_enter Tryd.func55, Tryd.ntmps55
     go_wp2_with fail
     clear ht
     go_loop [3, 4] (fun a i => ∃ (k n : Nat), k ≤ s.size ∧ n < 10000000000 ∧ i = .int .i64 k ∧ a = .int .i64 n ∧ Hid (n < 10 ^ k) ∧ Hid (r = arcK n (s.data.toList.drop k))) (fun _ i => s.size - (intOf i).toNat)
     case atStart => exact ⟨0, 0, by omega, by omega, rfl, rfl, hide (by omega), HR2⟩
     case round =>
      obtain ⟨k, n, hk, hnb, rfl, rfl, HN, H⟩ := hrel
      by_cases hlt : k < s.size
      ·have HD := drop_string s k hlt
       obtain ⟨c, hc⟩ : ∃ c, s[k] = c := ⟨_, rfl⟩
       rw [hc] at HD
       have hcb := byte_lt c
       have HX := hide (H.out.trans (congrArg (arcK n) HD))
       have hn9 := pow10_bd9 HN.out (by omega)
       clear HD
       by_cases hdg : 48 ≤ (c.toNat : Int) ∧ (c.toNat : Int) ≤ 57
       ·have HY := hide (show r = arcK (10 * n + (c.toNat - 48)) (s.data.toList.drop (k + 1)) by rw [HX.out, arcK, if_pos (by simp [isDig]; omega)])
        have HN2 := hide (show 10 * n + (c.toNat - 48) < 10 ^ (k + 1) by have := HN.out; rw [Nat.pow_succ]; omega)
        obtain ⟨hd1, hd2⟩ := hdg
        go_wp2_with fail
        go_round
        case rel => exact ⟨k + 1, 10 * n + (c.toNat - 48), by omega, by omega, by go_num, by go_num, HN2, HY⟩
        case measure => simp [intOf]; omega
       ·have HY := hide (show r = none by rw [HX.out, arcK, if_neg (by simp [isDig]; omega)])
        have hdg' : (c.toNat : Int) < 48 ∨ (48 ≤ (c.toNat : Int) ∧ 57 < (c.toNat : Int)) := by omega
        clear hdg
        rcases hdg' with hd1 | ⟨hd1, hd2⟩
        all_goals
         go_wp2_with fail
         go_ret
         exact ⟨ret_int (by rw [HY.out]; rfl), rfl⟩
      ·have HE := hide (drop_string_end s k (by omega))
       by_cases hbig : 2147483647 < n
       ·have HY := hide (show r = none by rw [H.out, HE.out, arcK, if_pos hbig])
        go_wp2_with fail
        go_ret
        exact ⟨ret_int (by rw [HY.out]; rfl), rfl⟩
       ·have HY := hide (show r = some n by rw [H.out, HE.out, arcK, if_neg hbig])
        go_wp2_with fail
        go_ret
        exact ⟨ret_int (by rw [HY.out]; rfl), rfl⟩
def rootB (a b : Nat) : Bool := (decide (a ≤ 1) && decide (b ≤ 39)) || decide (a = 2)
set_option maxHeartbeats 400000 in
theorem root_any (a b : Nat) (w : World) :
  Calls Tryd.prog 56 #[.int .i64 (a : Int), .int .i64 (b : Int)] w fun e w' => e = .returned (.bool (rootB a b)) ∧ w = w' := by
 have h2 : ((a : Int) == 2) = decide (a = 2) := by rw [Bool.eq_iff_iff]; simp; omega
 unfold rootB
 by_cases h1 : a ≤ 1
 ·have h3 : decide (a = 2) = false := by simp; omega
  have h4 : ((a : Int) == 2) = false := by rw [h2, h3]
  rw [h3]
  clear h2 h3
  by_cases hb : b ≤ 39
  ·go_enter Tryd.func56, Tryd.ntmps56
   go_wp2_with fail
   go_ret
   exact ⟨ret_bool (by simp), rfl⟩
  ·go_enter Tryd.func56, Tryd.ntmps56
   go_wp2_with fail
   go_ret
   exact ⟨ret_bool (by simp [hb]; omega), rfl⟩
 ·obtain ⟨p, hp⟩ : ∃ p, decide (a = 2) = p := ⟨_, rfl⟩
  rw [hp] at h2
  have H := hide (show (decide (a ≤ 1) && decide (b ≤ 39) || decide (a = 2)) = p by rw [hp]; simp [h1])
  clear hp
  rw [H.out]
  cases p
  all_goals
   go_enter Tryd.func56, Tryd.ntmps56
   go_wp2_with fail
   go_ret
   exact ⟨rfl, rfl⟩
end Go.Proofs.YtmgnihmjjijdoaaDoor
namespace Go.Proofs.YtmgnihmjjijdoaaDoor
open Go.RowKit
theorem info_u8o : (Tryd.prog.info? 5).map (fun i => (i.zero, i.size, i.bytes)) = some (some (.int .u8 0), 1, 1) := by kernel_rfl
theorem info_int : (Tryd.prog.info? 3).map (fun i => (i.zero, i.size, i.bytes)) = some (some (.int .i64 0), 1, 8) := by kernel_rfl
def natC (n : Nat) : List Value := [.int .i64 (n : Int)]
abbrev RNat : Rep Nat := Pu natC
theorem RNat.ok : RepOk RNat 1 := Pu.ok (fun _ => rfl) (fun x u hu => by simp [natC] at hu; subst hu; rfl)
theorem news_nats (w : World) (S : Nat → Prop) (C : Array Value) (t : TypeId) (l : List Nat) (hC : C.toList = l.map fun (n : Nat) => Value.int .i64 (n : Int)) :
  ∀ i y, l[i]? = some y → ∃ cs, RNat (w.alloc (.cells C t)) S y cs ∧ ∀ j u, cs[j]? = some u → (w.alloc (.cells C t)).cell? ((⟨w.heap.size, 0, none⟩ : Addr).add (i * 1 + j)) = some u :=
 news_pu (f := natC) (size := 1) (fun _ => rfl) w S C t l (by
  rw [hC]
  clear hC
  induction l with
  | nil => rfl
  | cons x l ih => rw [List.map_cons, List.flatMap_cons, ih]; rfl)
theorem Own.natAt {e : TypeId} {w : World} {base : Nat} {S : Nat → Prop} {v : Value} {l : List Nat} (h : Own RNat 1 e w base S v l) {i : Nat} (hi : i < l.length) :
  ∃ g cap, v = .slice (some ⟨g, 0, none⟩) l.length cap ∧ base ≤ g ∧ g < w.heap.size ∧ l.length ≤ cap ∧ cap ≤ maxLen ∧ w.cell? ⟨g, i, none⟩ = some (.int .i64 (l[i] : Int)) := by
 obtain ⟨g, cap, ys, hv, hb, hg, hc, hm, hr, hh, _⟩ := h.at_ hi
 have hr' : ys = natC l[i] := hr
 subst hr'
 exact ⟨g, cap, hv, hb, hg, hc, hm, by simpa using hh 0 _ rfl⟩
theorem Sl.natAt {w : World} {S : Nat → Prop} {A : Option Addr} {n c : Nat} {l : List Nat} (h : Sl RNat 1 w S l [.slice A n c]) {i : Nat} (hi : i < l.length) :
  ∃ b off, A = some ⟨b, off, none⟩ ∧ S b ∧ w.cell? ⟨b, off + i, none⟩ = some (.int .i64 (l[i] : Int)) := by
 obtain ⟨b, off, xs, hA, hb, hr, hh⟩ := h.at_ hi
 have hr' : xs = natC l[i] := hr
 subst hr'
 exact ⟨b, off, hA, hb, by simpa using hh 0 _ rfl⟩
def Mx (w : World) : Prop := ∃ m, w.cell? ⟨0, 0, none⟩ = some (.int .i64 m)
theorem Mx.below {w w' : World} (h : Mx w) (hb : Below w.heap.size w w') : Mx w' := by
 obtain ⟨m, hm⟩ := h
 exact ⟨m, (hb.cell (World.block_lt_of_cell? w _ hm)).trans hm⟩
def arcsL : List (List UInt8) → Option (List Nat)
 | [] => some []
 | p :: ps => (arcG p).bind fun n => (arcsL ps).map (n :: ·)
def rootL (o : Option (List Nat)) : Option (List Nat) := o.bind fun l => if rootB (l.getD 0 0) (l.getD 1 0) then some l else none
def arcsP (l : List UInt8) : Option (List Nat) :=
 if (splitC 46 l).length < 2 ∨ 12 < (splitC 46 l).length then none else rootL (arcsL (splitC 46 l))
theorem arcsL_len : ∀ (ps : List (List UInt8)) (l : List Nat), arcsL ps = some l → l.length = ps.length
  | [], l, h => by cases h; rfl
  | p :: ps, l, h => by
    obtain ⟨v, hv, h0⟩ := Option.bind_eq_some_iff.1 h
    obtain ⟨l', h1, rfl⟩ := Option.map_eq_some_iff.1 h0
    simp [arcsL_len ps l' h1]
theorem arcsL_le : ∀ (ps : List (List UInt8)) (l : List Nat), arcsL ps = some l → ∀ n ∈ l, n ≤ 2147483647
  | [], l, h => by cases h; intro n hn; cases hn
  | p :: ps, l, h => by
    obtain ⟨v, hv, h0⟩ := Option.bind_eq_some_iff.1 h
    obtain ⟨l', h1, rfl⟩ := Option.map_eq_some_iff.1 h0
    intro n hn
    rcases List.mem_cons.1 hn with rfl | hn
    · exact arcG_le p _ hv
    · exact arcsL_le ps l' h1 n hn
theorem rootL_some {o : Option (List Nat)} {l : List Nat} (h : rootL o = some l) : o = some l ∧ rootB (l.getD 0 0) (l.getD 1 0) = true := by
  unfold rootL at h
  cases o with
  | none => cases h
  | some l' =>
    simp only [Option.bind_some] at h
    split at h
    · rename_i hr
      cases h
      exact ⟨rfl, hr⟩
    · cases h
theorem arcsP_some {s : List UInt8} {l : List Nat} (h : arcsP s = some l) : 2 ≤ l.length ∧ l.length ≤ 12 ∧ (∀ n ∈ l, n ≤ 2147483647) ∧ rootB (l.getD 0 0) (l.getD 1 0) = true := by
 unfold arcsP at h
 split at h
 ·cases h
 ·rename_i hc
  obtain ⟨h1, h2⟩ := rootL_some h
  have := arcsL_len _ _ h1
  exact ⟨by omega, by omega, arcsL_le _ _ h1, h2⟩
def ArcsPost (w : World) (r : Option (List Nat)) (e : Ending) (w' : World) : Prop :=
 Below w.heap.size w w' ∧ match r with
  | none => e = .returned (.slice none 0 0)
  | some l => ∃ g c, e = .returned (.slice (some ⟨g, 0, none⟩) l.length c) ∧ w.heap.size ≤ g ∧ Sl RNat 1 w' (Lt w'.heap.size) l [.slice (some ⟨g, 0, none⟩) l.length c]
theorem ArcsPost.none {w : World} {e : Ending} {w' : World} (hb : Below w.heap.size w w') (he : e = .returned (.slice Option.none 0 0)) : ArcsPost w Option.none e w' := ⟨hb, he⟩
set_option maxHeartbeats 4000000 in
theorem arcs_any (s : ByteArray) (hs : s.size ≤ 1000000) (w : World) (hmx : Mx w) :
    Calls Tryd.prog 42 #[.string s] w (ArcsPost w (arcsP s.data.toList)) := by
  obtain ⟨m, hm⟩ := hmx
  have HM := hide hm
  clear hm
  obtain ⟨r, hr⟩ : ∃ r, r = arcsP s.data.toList := ⟨_, rfl⟩
  rw [← hr]
  obtain ⟨parts, hparts⟩ : ∃ parts, Lib.splitB ⟨#[46]⟩ 0 (Lib.countB s ⟨#[46]⟩) s = parts := ⟨_, rfl⟩
  have hlen : parts.length = Lib.countB s ⟨#[46]⟩ + 1 := by rw [← hparts]; exact splitB_len 46 s
  have hdata : (parts.map fun (x : ByteArray) => x.data.toList) = splitC 46 s.data.toList := by rw [← hparts]; exact splitB_C 46 s
  have hsl : (splitC 46 s.data.toList).length = parts.length := by rw [← hdata, List.length_map]
  have hcl := splitC_len 46 s.data.toList
  have hpl : parts.length ≤ 1000001 := by rw [size_string] at hcl; omega
  have HPL := hide (show ∀ p ∈ parts, p.size ≤ 1000000 from fun p hp => by
    have := splitC_mem_len 46 s.data.toList p.data.toList (by rw [← hdata]; exact List.mem_map.2 ⟨p, hp, rfl⟩)
    rw [size_string, size_string] at this
    omega)
  have hr2 : r = if parts.length < 2 ∨ 12 < parts.length then none else rootL (arcsL (parts.map fun (x : ByteArray) => x.data.toList)) := by rw [hr, arcsP, hsl, hdata]
  have HR := hide hr2
  have HPS := hide hparts
  have HLEN := hide hlen
  clear hr hparts hdata hsl hcl hlen hr2
  have hbase : w.heap.size ≤ w.heap.size := Nat.le_refl _
  go_enter Tryd.func42, Tryd.ntmps42
  go_wp2_with fail
  refine (Tryd.strings_Split s ⟨#[46]⟩ m _ (by omega) HM.out (Nat.le_refl 1)).mono ?_
  rintro e w1 ⟨rfl, hw1⟩
  rw [HPS.out, ← HLEN.out] at *
  obtain ⟨C, hC⟩ : ∃ C, C = (parts.map Value.string).toArray := ⟨_, rfl⟩
  rw [← hC] at hw1
  have hw1s : w1.heap.size = w.heap.size + 1 := by rw [hw1]; simp
  have hcell : ∀ i (h : i < parts.length), w1.cell? ⟨w.heap.size, i, none⟩ = some (.string parts[i]) := fun i hi => by
    rw [hw1, World.cell?_alloc_new, hC]; simp [hi]
  have hb1 : Below w.heap.size w w1 := by rw [hw1]; exact (Below.refl _ _).alloc (Nat.le_refl _) _
  have HC := hide hcell
  have HB1 := hide hb1
  have HW1S := hide hw1s
  clear hw1 hcell hb1 hw1s hC hbase
  by_cases hn : parts.length < 2 ∨ 12 < parts.length
  · have HX := hide (show r = none by rw [HR.out, if_pos hn])
    rcases hn with hn | hn
    all_goals
      go_wp2_with fail
      go_ret
      exact HX.out ▸ ⟨HB1.out, rfl⟩
  · have HX := hide (show r = rootL (arcsL (parts.map fun (x : ByteArray) => x.data.toList)) by rw [HR.out, if_neg hn])
    have hn1 : 2 ≤ parts.length := by omega
    have hn2 : parts.length ≤ 12 := by omega
    clear hn
    obtain ⟨base, hbase⟩ : ∃ base, base = w1.heap.size := ⟨_, rfl⟩
    have HBASE := hide hbase
    clear hbase
    go_wp2_with fail
    go_loopw [4, 20] (fun v i wr => ∃ (k : Nat) (out : List Nat), k ≤ parts.length ∧ out.length = k ∧ i = .int .i64 k ∧ Own RNat 1 3 wr base No v out ∧ Below base w1 wr ∧ Hid (arcsL (parts.map fun (x : ByteArray) => x.data.toList) = (arcsL ((parts.drop k).map fun (x : ByteArray) => x.data.toList)).map (out ++ ·))) (fun _ i _ => parts.length - (intOf i).toNat)
    case atStart => exact ⟨0, [], Nat.zero_le _, rfl, rfl, Own.nil _ _ _ _ _ _, Below.refl _ _, hide (by simp)⟩
    case round =>
      obtain ⟨k, out, hk, hol, rfl, hown, hb, H⟩ := hrel
      have HOL := hide hol
      have hol' : out.length ≤ k := by omega
      clear hol
      have hgs : base ≤ wr.heap.size := by have := hb.size; have := HBASE.out; omega
      have hwb : w.heap.size < base := by have := HBASE.out; have := HW1S.out; omega
      by_cases hlt : k < parts.length
      · have hcell : wr.cell? ⟨w.heap.size, k, none⟩ = some (.string parts[k]) := (hb.cell hwb).trans (HC.out k hlt)
        have hdr := List.drop_eq_getElem_cons hlt
        have hps := HPL.out parts[k] (List.getElem_mem hlt)
        obtain ⟨p, hp⟩ : ∃ p, parts[k] = p := ⟨_, rfl⟩
        rw [hp] at hcell hdr hps
        obtain ⟨o, ho⟩ : ∃ o, arcG p.data.toList = o := ⟨_, rfl⟩
        have HX2 := hide (show arcsL (parts.map fun (x : ByteArray) => x.data.toList) = (o.bind fun n => (arcsL ((parts.drop (k + 1)).map fun (x : ByteArray) => x.data.toList)).map (n :: ·)).map (out ++ ·) by
          rw [H.out, hdr, List.map_cons, arcsL, ho])
        have HO := hide ho
        clear hdr hp ho
        obtain ⟨A, cp, hv⟩ := (hown.sl RNat.ok).shape
        subst hv
        go_wp2_with fail
        refine (arc_any p hps _).mono ?_
        rintro e w2 ⟨rfl, rfl⟩
        rw [HO.out]
        cases o with
        | none =>
          have HN := hide (show r = none by rw [HX.out, HX2.out]; rfl)
          unfold arcI
          go_wp2_with fail
          go_ret
          exact HN.out ▸ ⟨HB1.out.trans (hb.mono (by omega)), rfl⟩
        | some n =>
          have hn := arcG_le _ _ HO.out
          have HX3 := hide (show arcsL (parts.map fun (x : ByteArray) => x.data.toList) = (arcsL ((parts.drop (k + 1)).map fun (x : ByteArray) => x.data.toList)).map ((out ++ [n]) ++ ·) by
            rw [HX2.out, Option.bind_some, Option.map_map]; congr 1; funext z; simp)
          unfold arcI
          simp only
          go_wp2_with (at_builtin; refine wpList_app RNat.ok _ rfl (.tmp 28) (.tmp 30) 24 rfl base 3 (.int .i64 0) 8 Tryd.underlying24 info_int rfl (by decide) No _ out rfl (hown.alloc RNat.ok (no_lt _) _) ⟨_, 0, none⟩ 1 1 [n] rfl rfl (news_nats _ _ _ _ [n] rfl) (no_lt _) (by simp; omega) (by simp [maxLen]; omega) (by simp; omega) ?_; intro v2 w2 hown2 hg2 hb2 hat2; have hsz2 := hb2.size; simp at hsz2)
          go_roundw
          case rel => exact ⟨k + 1, out ++ [n], by omega, by simp [HOL.out], by go_num, hown2, (below_alloc hb hgs _).trans hb2, HX3⟩
          case measure => simp [intOf]; omega
      · have hkl : k = parts.length := by omega
        have HX2 := hide (show arcsL (parts.map fun (x : ByteArray) => x.data.toList) = some out by rw [H.out, hkl]; simp [arcsL])
        have hol2 : out.length = parts.length := by rw [HOL.out, hkl]
        obtain ⟨g0, cap, hv, hbg, hgl, hgc, hgm, hc0⟩ := hown.natAt (i := 0) (by omega)
        obtain ⟨g1, cap1, hv1, _, _, _, _, hc1⟩ := hown.natAt (i := 1) (by omega)
        rw [hv] at hv1
        simp only [Value.slice.injEq, Option.some.injEq, Addr.mk.injEq, and_true, true_and] at hv1
        obtain ⟨rfl, rfl⟩ := hv1
        subst hv
        obtain ⟨a, ha⟩ : ∃ a, out[0]'(by omega) = a := ⟨_, rfl⟩
        obtain ⟨b, hb'⟩ : ∃ b, out[1]'(by omega) = b := ⟨_, rfl⟩
        rw [ha] at hc0
        rw [hb'] at hc1
        have HX3 := hide (show r = if rootB a b then some out else none by
          rw [HX.out, HX2.out, rootL, Option.bind_some]
          have e0 : out.getD 0 0 = a := by rw [← ha]; simp [List.getD, List.getElem?_eq_getElem (show 0 < out.length by omega)]
          have e1 : out.getD 1 0 = b := by rw [← hb']; simp [List.getD, List.getElem?_eq_getElem (show 1 < out.length by omega)]
          rw [e0, e1])
        have HSL := hide (fun n : Nat => (Sl.ok RNat.ok).mono (hown.sl RNat.ok) (w' := wr.drewN n) (S' := Lt wr.heap.size) (fun _ _ => rfl) (fun k hk => by rcases hk with h | h; exact h.elim; exact h.2))
        have HBD := hide (fun n => below_drewN (HB1.out.trans (hb.mono (by omega))) n)
        have hl1 : (1 : Int) < (out.length : Int) := by omega
        have hl0 : (0 : Int) < (out.length : Int) := by omega
        have HGB := hide (show w.heap.size ≤ g0 by omega)
        obtain ⟨q, hq⟩ : ∃ q, rootB a b = q := ⟨_, rfl⟩
        have HQ := hide hq
        clear hq ha hb' hown hb hgm
        go_wp2_with fail
        go_quiet ((go_at_call 56; exact quiet_left (root_any _ _ _)))
        rw [HQ.out]
        cases q
        · go_wp2_with fail
          go_ret
          have HE : r = none := by rw [HX3.out, HQ.out]; rfl
          exact HE ▸ ArcsPost.none (HBD.out _) rfl
        · go_wp2_with fail
          go_ret
          have HE : r = some out := by rw [HX3.out, HQ.out]; rfl
          refine HE ▸ ⟨HBD.out _, g0, cap, rfl, HGB.out, ?_⟩
          exact HSL.out _
end Go.Proofs.YtmgnihmjjijdoaaDoor
namespace Go.Proofs.YtmgnihmjjijdoaaDoor
open Go.RowKit
def Src {α : Type} (R : Rep α) (size : Nat) (w : World) (S : Nat → Prop) (x : Value) (ys : List α) : Prop :=
 (x = .slice none 0 0 ∧ ys = []) ∨ ∃ ad m c, x = .slice (some ad) m c ∧ m = ys.length ∧ ∀ i y, ys[i]? = some y → ∃ cs, R w S y cs ∧ ∀ j u, cs[j]? = some u → w.cell? (ad.add (i * size + j)) = some u
theorem Own.src {α : Type} {R : Rep α} {size : Nat} {e : TypeId} {w : World} {base : Nat} {S : Nat → Prop} {v : Value} {l : List α} (h : Own R size e w base S v l) : Src R size w S v l := by
 have h' := h
 obtain ⟨xs, ⟨hl, h1⟩, h2, h3⟩ := h
 rcases h1 with ⟨rfl, hn⟩ | ⟨g, cap, cur, rfl, hb, hg, hnc, hcm, hsz, htk⟩
 ·exact .inl ⟨rfl, List.eq_nil_of_length_eq_zero hn⟩
 ·refine .inr ⟨⟨g, 0, none⟩, l.length, cap, rfl, rfl, fun i y hy => ?_⟩
  obtain ⟨hi, rfl⟩ := List.getElem?_eq_some_iff.1 hy
  obtain ⟨g', cap', ys, hv, _, _, _, _, hr, hc, _⟩ := h'.at_ hi
  cases hv
  refine ⟨ys, hr, fun j u hu => ?_⟩
  rw [Addr.add_lit, Nat.zero_add]
  exact hc j u hu
theorem Src.keep {α : Type} {R : Rep α} {size : Nat} {w w' : World} {S S' : Nat → Prop} {x : Value} {ys : List α} (hR : RepOk R size) (h : Src R size w S x ys) (hk : ∀ k, S k → w'.heap[k]? = w.heap[k]?) (hS : ∀ k, S k → S' k)
  (hc : ∀ a u, w.cell? a = some u → w'.cell? a = some u) : Src R size w' S' x ys := by
 rcases h with h | ⟨ad, m, c, h1, h2, h3⟩
 ·exact .inl h
 ·refine .inr ⟨ad, m, c, h1, h2, fun i y hy => ?_⟩
  obtain ⟨cs, c1, c2⟩ := h3 i y hy
  exact ⟨cs, hR.mono c1 hk hS, fun j u hu => hc _ _ (c2 j u hu)⟩
theorem cell_grows {w w' : World} (h : Below w.heap.size w w') : ∀ (a : Addr) u, w.cell? a = some u → w'.cell? a = some u := fun a _ hu =>
 (h.cell (World.block_lt_of_cell? w a hu)).trans hu
theorem Src.grow {α : Type} {R : Rep α} {size : Nat} {w w' : World} {S : Nat → Prop} {x : Value} {ys : List α} (hR : RepOk R size) (h : Src R size w S x ys) (hS : ∀ k, S k → k < w.heap.size) (hb : Below w.heap.size w w') : Src R size w' S x ys :=
 h.keep hR (fun k hk => hb.block k (hS k hk)) (fun _ hk => hk) (cell_grows hb)
theorem BytesAt.src {w : World} {e : TypeId} {g : Nat} {l : List UInt8} (h : BytesAt w e g l) (S : Nat → Prop) {n c : Nat} (hn : n = l.length) : Src RByte 1 w S (.slice (some ⟨g, 0, none⟩) n c) l :=
  .inr ⟨⟨g, 0, none⟩, n, c, rfl, hn, fun i y hy => ⟨_, rfl, fun j u hu => by
    obtain ⟨hi, rfl⟩ := List.getElem?_eq_some_iff.1 hy
    match j, hu with
    | 0, hu =>
      simp [byteC] at hu; subst hu
      rw [Addr.add_lit, Nat.zero_add, Nat.mul_one, Nat.add_zero]
      exact h.cell hi⟩⟩
section
variable {P : Program} {α : Type} {R : Rep α} {size : Nat} {w : World} {ops : Array Oper} {rest : List Oper} {o : Oper} {a : Act} {Q : Exit → Act → World → Prop} {K : Act → World → Prop}
theorem wp_apps (hR : RepOk R size) (w : World) (s x : Operand) (t : TypeId) (ho : o.op = .call { callee := .builtin .append, args := #[s, x], argTypes := #[t, t] })
  (base : Nat) (e : TypeId) (z : Value) (bytes : Nat) (ht : P.underlying t = some (.slice e))
  (hi : (P.info? e).map (fun i => (i.zero, i.size, i.bytes)) = some (some z, size, bytes)) (hzs : z.cells.size = size) (hsz : 0 < size)
  (S : Nat → Prop) (v : Value) (l : List α) (hs : a.eval s = v) (hown : Own R size e w base S v l) (xv : Value) (ys : List α) (hx : a.eval x = xv) (hsrc : Src R size w S xv ys)
  (hS : ∀ k, S k → k < w.heap.size) (hbytes : (l.length + ys.length) * bytes ≤ 140737488355328) (h63 : l.length + ys.length ≤ maxLen) (hbase : base ≤ w.heap.size)
  (h : ∀ v' w', Own R size e w' base S v' (l ++ ys) → w.grownBy w' v.ownBlock → Below base w w' → (v'.ownBlock = v.ownBlock ∨ v'.ownBlock = some w.heap.size) → K (a.put o.dst v') w') : o.wp P a w K Q := by
 rcases hsrc with ⟨hxn, rfl⟩ | ⟨ad, m, c, hxs, hm, hys⟩
 ·obtain ⟨i0, hi0, hz0, hz1, hz2⟩ := info_parts hi
  obtain ⟨xs, h1, h2, h3⟩ := hown
  have hrun := run_append_owned_none (P := P) (w := w) base t o.type e i0 size ht hi0 v l.length xs h1
  have hK := h v w (by rw [List.append_nil]; exact ⟨xs, h1, h2, h3⟩) ⟨rfl, rfl, rfl, Nat.le_refl _, fun _ _ _ => rfl⟩ (Below.refl _ _) (.inl rfl)
  unfold Oper.wp execOp
  simp [ho, resolve, invoke, builtin, hs, hx, hxn, hrun, Result.andThen]
  exact hK
 ·exact wp_app hR w s x t ho base e z bytes ht hi hzs hsz S v l hs hown ad m c ys (hx.trans hxs) hm hys hS hbytes h63 hbase h
theorem wpList_apps (hR : RepOk R size) (w : World) (hgd : o.guard = none) (s x : Operand) (t : TypeId) (ho : o.op = .call { callee := .builtin .append, args := #[s, x], argTypes := #[t, t] })
  (base : Nat) (e : TypeId) (z : Value) (bytes : Nat) (ht : P.underlying t = some (.slice e))
  (hi : (P.info? e).map (fun i => (i.zero, i.size, i.bytes)) = some (some z, size, bytes)) (hzs : z.cells.size = size) (hsz : 0 < size)
  (S : Nat → Prop) (v : Value) (l : List α) (hs : a.eval s = v) (hown : Own R size e w base S v l) (xv : Value) (ys : List α) (hx : a.eval x = xv) (hsrc : Src R size w S xv ys)
  (hS : ∀ k, S k → k < w.heap.size) (hbytes : (l.length + ys.length) * bytes ≤ 140737488355328) (h63 : l.length + ys.length ≤ maxLen) (hbase : base ≤ w.heap.size)
  (h : ∀ v' w', Own R size e w' base S v' (l ++ ys) → w.grownBy w' v.ownBlock → Below base w w' → (v'.ownBlock = v.ownBlock ∨ v'.ownBlock = some w.heap.size) → wpList P ops Q rest (a.put o.dst v') w') : wpList P ops Q (o :: rest) a w :=
 wpList_plain hgd fun _ hK => wp_apps hR w s x t ho base e z bytes ht hi hzs hsz S v l hs hown xv ys hx hsrc hS hbytes h63 hbase fun v' w' h2 h3 h4 h5 => hK _ _ (h v' w' h2 h3 h4 h5)
end
end Go.Proofs.YtmgnihmjjijdoaaDoor
namespace Go.Proofs.YtmgnihmjjijdoaaDoor
open Go.RowKit
theorem i64_and_nat (a b : Nat) (ha : a < 9223372036854775808) (hb : b < 9223372036854775808) : bits .and .i64 (a : Int) (b : Int) = ((a &&& b : Nat) : Int) := by
 have hx : a &&& b < 2 ^ 63 := Nat.and_lt_two_pow _ (by omega)
 show IntKind.i64.wrap ((BitVec.ofInt 64 (a : Int) &&& BitVec.ofInt 64 (b : Int)).toNat : Int) = _
 rw [BitVec.toNat_and, ofInt_u64 a (by omega), ofInt_u64 b (by omega)]
 exact IntWalk.i64_in _ (by omega)
theorem i64_or_nat (a b : Nat) (ha : a < 9223372036854775808) (hb : b < 9223372036854775808) : bits .or .i64 (a : Int) (b : Int) = ((a ||| b : Nat) : Int) := by
 have hx : a ||| b < 2 ^ 63 := Nat.or_lt_two_pow (by omega) (by omega)
 show IntKind.i64.wrap ((BitVec.ofInt 64 (a : Int) ||| BitVec.ofInt 64 (b : Int)).toNat : Int) = _
 rw [BitVec.toNat_or, ofInt_u64 a (by omega), ofInt_u64 b (by omega)]
 exact IntWalk.i64_in _ (by omega)
theorem and31 (t : Nat) (h : t < 256) : bits .and .i64 (t : Int) 31 = ((t % 32 : Nat) : Int) := by
 have := i64_and_nat t 31 (by omega) (by omega)
 rw [show t &&& 31 = t % 32 from Nat.and_two_pow_sub_one_eq_mod t 5] at this
 exact this
end Go.Proofs.YtmgnihmjjijdoaaDoor
namespace Go.Proofs.YtmgnihmjjijdoaaDoor
open Go.RowKit
def validB (l : List UInt8) : Bool := (arcsP l).isSome
theorem ofNat_byte (n : Nat) (h : n < 256) : ((UInt8.ofNat n).toNat : Int) = (n : Int) := by
 rw [UInt8.toNat_ofNat']; omega
theorem i64_and127 (a : Nat) (ha : a < 9223372036854775808) : bits .and .i64 (a : Int) 127 = (a : Int) % 128 := by
 have := i64_and_nat a 127 ha (by omega)
 rw [show a &&& 127 = a % 128 from Nat.and_two_pow_sub_one_eq_mod a 7] at this
 rw [show (127 : Int) = ((127 : Nat) : Int) from rfl, this]
 omega
theorem i64_or128 (a : Nat) : bits .or .i64 ((a : Int) % 128) 128 = ((UInt8.ofNat (a % 128 + 128)).toNat : Int) := by
 have h : ∀ n : Fin 128, bits .or .i64 ((n.1 : Nat) : Int) 128 = ((n.1 + 128 : Nat) : Int) := by decide +kernel
 rw [ofNat_byte _ (by omega), show (a : Int) % 128 = ((a % 128 : Nat) : Int) by omega]
 exact h ⟨a % 128, by omega⟩
def hiL (m : Nat) : List UInt8 := if _h : m = 0 then [] else hiL (m / 128) ++ [UInt8.ofNat (m % 128 + 128)]
termination_by m
decreasing_by omega
theorem hiL_pos {m : Nat} (h : 1 ≤ m) : hiL m = hiL (m / 128) ++ [UInt8.ofNat (m % 128 + 128)] := by rw [hiL, dif_neg (by omega)]
theorem hiL_zero : hiL 0 = [] := by rw [hiL, dif_pos rfl]
def putL (n : Nat) : List UInt8 := hiL (n / 128) ++ [UInt8.ofNat (n % 128)]
theorem pow7_div (n k : Nat) : n / 2 ^ (7 * (k + 1)) = n / 2 ^ (7 * k) / 128 := by
 rw [Nat.div_div_eq_div_mul]
 congr 1
 rw [Nat.mul_succ, Nat.pow_add]
theorem pow7_cast (n k : Nat) : (n : Int) / 2 ^ (7 * k) = ((n / 2 ^ (7 * k) : Nat) : Int) := by
 rw [Int.natCast_ediv, Int.natCast_pow]; rfl
theorem pow7_anti (n k : Nat) : n / 2 ^ (7 * (k + 1)) ≤ n / 2 ^ (7 * k) := by rw [pow7_div]; exact Nat.div_le_self _ _
theorem pow7_pos (n : Nat) : ∀ {i k : Nat}, i ≤ k → 1 ≤ n / 2 ^ (7 * k) → 1 ≤ n / 2 ^ (7 * i)
  | i, k, h, hk => by
    induction k with
    | zero => have : i = 0 := by omega
              subst this; exact hk
    | succ k ih =>
      rcases Nat.lt_or_ge k i with h' | h'
      · have : i = k + 1 := by omega
        subst this; exact hk
      · exact ih h' (Nat.le_trans hk (pow7_anti n k))
theorem hiL_len (m : Nat) (h : m ≤ 4294967295) : (hiL m).length ≤ 5 := by
  have z : ∀ m, m < 1 → (hiL m).length ≤ 0 := fun m h => by have : m = 0 := by omega
                                                            subst this; rw [hiL_zero]; simp
  have s : ∀ m b, (hiL (m / 128)).length ≤ b → (hiL m).length ≤ b + 1 := fun m b h => by
    rcases Nat.eq_zero_or_pos m with rfl | hm
    · rw [hiL_zero]; simp
    · rw [hiL_pos hm]; simp; exact h
  exact s _ _ (s _ _ (s _ _ (s _ _ (s _ _ (z _ (by omega))))))
set_option maxHeartbeats 4000000 in
theorem put_any (n : Nat) (hn : n ≤ 4294967295) (v : Value) (l : List UInt8) (base : Nat) (w : World) (hbase : base ≤ w.heap.size) (hown : Own RByte 1 5 w base No v l) (hl : l.length ≤ 1000) :
  Calls Tryd.prog 43 #[v, .int .i64 (n : Int)] w fun e w' => ∃ v', e = .returned v' ∧ Own RByte 1 5 w' base No v' (l ++ putL n) ∧ Below base w w' := by
 have HN := hide hn
 go_enter Tryd.func43, Tryd.ntmps43
 go_wp2_with fail
 go_loop [5] (fun i => ∃ (k : Nat), 1 ≤ k ∧ k ≤ 6 ∧ i = .int .i64 k ∧ Hid (k = 1 ∨ 1 ≤ n / 2 ^ (7 * (k - 1)))) (fun i => 7 - (intOf i).toNat)
 case atStart => exact ⟨1, by omega, by omega, rfl, hide (.inl rfl)⟩
 case round =>
  obtain ⟨k, hk1, hk2, rfl, H⟩ := hrel
  have hk5 : k ≤ 5 := by
   rcases Nat.lt_or_ge 5 k with h | h
   ·have : k = 6 := by omega
    subst this
    rcases H.out with h | h
    ·cases h
    ·have := HN.out; omega
   ·exact h
  have hc := pow7_cast n k
  obtain ⟨d, hd⟩ : ∃ d, n / 2 ^ (7 * k) = d := ⟨_, rfl⟩
  rw [hd] at hc
  have HD := hide hd
  clear hd
  by_cases hp : 1 ≤ d
  ·have HP := hide hp
   have hp' : 0 < (n : Int) / 2 ^ (7 * k) := by rw [hc]; omega
   clear hc hp
   go_wp2_with fail
   go_round
   case rel => exact ⟨k + 1, by omega, by omega, by go_num, hide (.inr (by rw [Nat.add_sub_cancel, HD.out]; exact HP.out))⟩
   case measure => simp [intOf]; omega
  ·have HZ := hide (show n / 2 ^ (7 * k) = 0 by rw [HD.out]; omega)
   have hp' : (n : Int) / 2 ^ (7 * k) ≤ 0 := by rw [hc]; omega
   have hown0 := hown
   clear hc hp HD d
   go_wp2_with fail
   clear hp'
   clear hown0
   go_loopw [0, 6] (fun v i wr => ∃ (j : Nat) (out : List UInt8), j < k ∧ i = .int .i64 j ∧ Own RByte 1 5 wr base No v out ∧ Below base w wr ∧ base ≤ wr.heap.size ∧ out.length + j ≤ 1010 ∧ Hid (out = l ++ hiL (n / 2 ^ (7 * (j + 1))))) (fun _ i _ => (intOf i).toNat)
   case atStart => exact ⟨k - 1, l, by omega, by go_num, hown, Below.refl _ _, hbase, by omega, hide (by rw [show k - 1 + 1 = k by omega, HZ.out, hiL_zero, List.append_nil])⟩
   case round =>
    obtain ⟨j, out, hj, rfl, hown, hb, hgs, hol, HO⟩ := hrel
    obtain ⟨A, cp, hv⟩ := (hown.sl RByte.ok).shape
    subst hv
    rcases Nat.eq_zero_or_pos j with rfl | hj0
    ·have ha := i64_and127 n (by omega)
     have hc : (n : Int) % 128 = ((UInt8.ofNat (n % 128)).toNat : Int) := by rw [ofNat_byte _ (by omega)]; omega
     rw [hc] at ha
     obtain ⟨c, hcc⟩ : ∃ c, UInt8.ofNat (n % 128) = c := ⟨_, rfl⟩
     rw [hcc] at ha
     have HC := hide hcc
     have hcl := byte_lt c
     clear hc hcc
     have HP := hide (show out ++ [c] = l ++ putL n by rw [HO.out, ← HC.out, putL, List.append_assoc])
     go_wp2_with (first
      | (at_builtin; refine wpList_app RByte.ok _ rfl (.tmp 32) (.tmp 36) 43 rfl base 5 (.int .u8 0) 1 Tryd.underlying43 info_u8o rfl (by decide) No _ out rfl (hown.alloc RByte.ok (no_lt _) _) ⟨_, 0, none⟩ 1 1 [c] rfl rfl (news_bytes _ _ _ _ [c] rfl) (no_lt _) (by simp; omega) (by simp [maxLen]; omega) (by simp; omega) ?_; intro v2 w2 hown2 hg2 hb2 hat2; have hsz2 := hb2.size; simp at hsz2))
     go_ret
     exact ⟨_, rfl, HP.out ▸ hown2, (below_alloc hb hgs _).trans hb2⟩
    ·obtain ⟨d, hd⟩ : ∃ d, n / 2 ^ (7 * j) = d := ⟨_, rfl⟩
     have hc := pow7_cast n j
     rw [hd] at hc
     have hdn : d ≤ n := by rw [← hd]; exact Nat.div_le_self _ _
     have hd1 : 1 ≤ d := by
      rw [← hd]
      refine pow7_pos n (show j ≤ k - 1 by omega) ?_
      rcases H.out with h | h
      ·omega
      ·exact h
     have ha := i64_and127 d (by omega)
     have ho := i64_or128 d
     obtain ⟨c, hcc⟩ : ∃ c, UInt8.ofNat (d % 128 + 128) = c := ⟨_, rfl⟩
     rw [hcc] at ho
     have hcl := byte_lt c
     have HP := hide (show out ++ [c] = l ++ hiL (n / 2 ^ (7 * (j - 1 + 1))) by
      rw [HO.out, show j - 1 + 1 = j by omega, hd, hiL_pos hd1, hcc, pow7_div, hd, List.append_assoc])
     clear hcc hd hd1
     go_wp2_with (first
      | (at_builtin; refine wpList_app RByte.ok _ rfl (.tmp 21) (.tmp 30) 43 rfl base 5 (.int .u8 0) 1 Tryd.underlying43 info_u8o rfl (by decide) No _ out rfl (hown.alloc RByte.ok (no_lt _) _) ⟨_, 0, none⟩ 1 1 [c] rfl rfl (news_bytes _ _ _ _ [c] rfl) (no_lt _) (by simp; omega) (by simp [maxLen]; omega) (by simp; omega) ?_; intro v2 w2 hown2 hg2 hb2 hat2; have hsz2 := hb2.size; simp at hsz2))
     go_roundw
     case rel => exact ⟨j - 1, out ++ [c], by omega, by go_num, hown2, (below_alloc hb hgs _).trans hb2, by omega, by simp; omega, HP⟩
     case measure => simp [intOf]; omega
theorem put_int (n : Nat) (N : Int) (hN : N = (n : Int)) (hn : n ≤ 4294967295) (v : Value) (l : List UInt8) (base : Nat) (w : World) (hbase : base ≤ w.heap.size) (hown : Own RByte 1 5 w base No v l) (hl : l.length ≤ 1000) :
  Calls Tryd.prog 43 #[v, .int .i64 N] w fun e w' => ∃ v', e = .returned v' ∧ Own RByte 1 5 w' base No v' (l ++ putL n) ∧ Below base w w' := by
 subst hN
 exact put_any n hn v l base w hbase hown hl
end Go.Proofs.YtmgnihmjjijdoaaDoor
namespace Go.Proofs.YtmgnihmjjijdoaaDoor
open Go.RowKit
def decL (n : Nat) : List UInt8 := if _h : n < 10 then [UInt8.ofNat (48 + n)] else decL (n / 10) ++ [UInt8.ofNat (48 + n % 10)]
termination_by n
decreasing_by omega
theorem decL_small {n : Nat} (h : n < 10) : decL n = [UInt8.ofNat (48 + n)] := by rw [decL, dif_pos h]
theorem decL_big {n : Nat} (h : ¬ n < 10) : decL n = decL (n / 10) ++ [UInt8.ofNat (48 + n % 10)] := by rw [decL, dif_neg h]
theorem decL_len : ∀ (k n : Nat), n < 10 ^ (k + 1) → (decL n).length ≤ k + 1
  | 0, n, h => by rw [decL_small (by omega)]; simp
  | k + 1, n, h => by
    by_cases h10 : n < 10
    · rw [decL_small h10]; simp
    · have := decL_len k (n / 10) (by rw [Nat.pow_succ] at h; omega)
      rw [decL_big h10, List.length_append]; simp; omega
theorem conv_one (W : World) (g : Nat) (c : UInt8) (h : W.cell? ⟨g, 0, none⟩ = some (.int .u8 (c.toNat : Int))) :
  (convert 43 9 (.slice (some ⟨g, 0, none⟩) 1 1)).run Tryd.prog W = .ok (.string ⟨#[c]⟩) W :=
 run_convert_bytes_back (P := Tryd.prog) W 43 9 5 ⟨g, 0, none⟩ 1 [c] Tryd.underlying43 Tryd.underlying5 Tryd.underlying9 fun j hj => by
  have : j = 0 := by simpa using hj
  subst this
  rw [Addr.add_lit]
  simpa using h
end Go.Proofs.YtmgnihmjjijdoaaDoor
namespace Go.Proofs.YtmgnihmjjijdoaaDoor
open Go.RowKit
section
variable {P : Program} {α : Type} {R : Rep α} {size : Nat} {w : World} {ops : Array Oper} {rest : List Oper} {o : Oper} {a : Act} {Q : Exit → Act → World → Prop} {K : Act → World → Prop}
theorem run_append_owned_zero (base : Nat) (t ty e : TypeId) (i : TypeInfo) (size : Nat) (ht : P.underlying t = some (.slice e)) (hi : P.info? e = some i)
  (v : Value) (n : Nat) (xs : List Value) (hown : w.ownsRow base e size v n xs) (A : Option Addr) (c : Nat) :
  (Builtin.append_ #[t, t] ty #[v, .slice A 0 c]).run P w = .ok v w := by
 rcases hown.2 with ⟨rfl, rfl⟩ | ⟨g, cap, cur, rfl, _, _, hnc, _⟩
 ·cases A <;> simp [Builtin.append_, run_underlying ht, sizeOf, typeInfo, hi, Builtin.lenOf, Builtin.firstCells, loadCells, loadCellsFrom]
 ·cases A <;> simp [Builtin.append_, run_underlying ht, sizeOf, typeInfo, hi, Builtin.lenOf, Builtin.firstCells, hnc, storeCells, loadCells, loadCellsFrom]
theorem sl_src {S : Nat → Prop} {A : Option Addr} {c : Nat} {l : List α} (h : Sl R size w S l [.slice A l.length c]) (hl : l ≠ []) :
  ∃ ad : Addr, A = some ad ∧ ∀ i y, l[i]? = some y → ∃ cs, R w S y cs ∧ ∀ j u, cs[j]? = some u → w.cell? (ad.add (i * size + j)) = some u := by
 obtain ⟨A', c', e, _, _, h3⟩ := h
 simp only [List.cons.injEq, Value.slice.injEq, and_true] at e
 obtain ⟨rfl, -, rfl⟩ := e
 obtain ⟨b, off, hA, hb, hh⟩ := h3 (List.length_pos_iff.2 hl)
 refine ⟨_, hA, fun i y hy => ?_⟩
 obtain ⟨cs, h1, h2⟩ := hh i y hy
 refine ⟨cs, h1, fun j u hu => ?_⟩
 rw [Addr.add_lit]
 exact h2 j u hu
theorem wp_copy (hR : RepOk R size) (w : World) (s x : Operand) (t : TypeId) (ho : o.op = .call { callee := .builtin .append, args := #[s, x], argTypes := #[t, t] })
  (base : Nat) (e : TypeId) (z : Value) (bytes : Nat) (ht : P.underlying t = some (.slice e))
  (hi : (P.info? e).map (fun i => (i.zero, i.size, i.bytes)) = some (some z, size, bytes)) (hzs : z.cells.size = size) (hsz : 0 < size)
  (S S' : Nat → Prop) (hRS : ∀ y cs, R w S y cs → R w S' y cs) (hs : a.eval s = .slice none 0 0) (A : Option Addr) (c : Nat) (l : List α) (hx : a.eval x = .slice A l.length c) (hsrc : Sl R size w S l [.slice A l.length c])
  (hS : ∀ k, S' k → k < w.heap.size) (hbytes : l.length * bytes ≤ 140737488355328) (hbase : base ≤ w.heap.size)
  (h : ∀ v' w', Own R size e w' base S' v' l → Below w.heap.size w w' → (v' = .slice none 0 0 ∨ v'.ownBlock = some w.heap.size) → K (a.put o.dst v') w') : o.wp P a w K Q := by
 have hlen := hsrc.len_
 by_cases hl : l = []
 ·subst hl
  obtain ⟨i0, hi0, hz0, hz1, hz2⟩ := info_parts hi
  have hnil := Own.nil R size e w base S'
  obtain ⟨xs, h1, h2, h3⟩ := hnil
  have hrun := run_append_owned_zero (P := P) (w := w) base t o.type e i0 size ht hi0 (.slice none 0 0) 0 xs h1 A c
  have hK := h (.slice none 0 0) w (Own.nil R size e w base S') (Below.refl _ _) (.inl rfl)
  have hx' : a.eval x = .slice A 0 c := hx
  unfold Oper.wp execOp
  simp [ho, resolve, invoke, builtin, hs, hx', hrun, Result.andThen]
  exact hK
 ·obtain ⟨ad, rfl, hy⟩ := sl_src hsrc hl
  refine wp_app hR w s x t ho base e z bytes ht hi hzs hsz S' (.slice none 0 0) [] hs (Own.nil R size e w base S') ad l.length c l hx rfl (fun i y hi => (hy i y hi).imp fun cs h => ⟨hRS y cs h.1, h.2⟩) hS (by simpa using hbytes) (by have := hlen.2; unfold maxLen at *; simp only [List.length_nil, Nat.zero_add]; omega) hbase (fun v' w' h2 h3 h4 h5 => ?_)
  rw [List.nil_append] at h2
  refine h v' w' h2 ⟨h3.os, h3.tape, h3.output, h3.size, fun k hk => h3.block k hk (by simp [Value.ownBlock])⟩ ?_
  rcases h5 with h5 | h5
  ·exfalso
   have hb : v'.ownBlock = none := by rw [h5]; rfl
   obtain ⟨xs, h6, -, -⟩ := h2
   rcases h6.2 with ⟨-, h7⟩ | ⟨g, cap, cur, rfl, -⟩
   ·exact hl (List.eq_nil_of_length_eq_zero h7)
   ·simp [Value.ownBlock] at hb
  ·exact .inr h5
theorem wpList_copy (hR : RepOk R size) (w : World) (hgd : o.guard = none) (s x : Operand) (t : TypeId) (ho : o.op = .call { callee := .builtin .append, args := #[s, x], argTypes := #[t, t] })
  (base : Nat) (e : TypeId) (z : Value) (bytes : Nat) (ht : P.underlying t = some (.slice e))
  (hi : (P.info? e).map (fun i => (i.zero, i.size, i.bytes)) = some (some z, size, bytes)) (hzs : z.cells.size = size) (hsz : 0 < size)
  (S S' : Nat → Prop) (hRS : ∀ y cs, R w S y cs → R w S' y cs) (hs : a.eval s = .slice none 0 0) (A : Option Addr) (c : Nat) (l : List α) (hx : a.eval x = .slice A l.length c) (hsrc : Sl R size w S l [.slice A l.length c])
  (hS : ∀ k, S' k → k < w.heap.size) (hbytes : l.length * bytes ≤ 140737488355328) (hbase : base ≤ w.heap.size)
  (h : ∀ v' w', Own R size e w' base S' v' l → Below w.heap.size w w' → (v' = .slice none 0 0 ∨ v'.ownBlock = some w.heap.size) → wpList P ops Q rest (a.put o.dst v') w') : wpList P ops Q (o :: rest) a w :=
 wpList_plain hgd fun _ hK => wp_copy hR w s x t ho base e z bytes ht hi hzs hsz S S' hRS hs A c l hx hsrc hS hbytes hbase fun v' w' h2 h3 h4 => hK _ _ (h v' w' h2 h3 h4)
end
end Go.Proofs.YtmgnihmjjijdoaaDoor
