/- The functions of package oid: an arc, the arcs of a text. -/
import Derived.Test.YtbafpgdmnkkclaaDoorSplit
import Derived.Test.YtbafpgdmnkkclaaDoorShelf
import Derived.Laws.ShiftsVarLaws
import Derived.Test.YtbafpgdmnkkclaaDoorBitA
import Derived.WalkSpells
namespace Go.Proofs.YtbafpgdmnkkclaaDoor
open Go.RowKit

def isDig (c : UInt8) : Bool := decide (48 ≤ (c.toNat : Int)) && decide ((c.toNat : Int) ≤ 57)
def arcK : Nat → List UInt8 → Option Nat
  | n, [] => if 2147483647 < n then none else some n
  | n, c :: r => if isDig c then arcK (10 * n + (c.toNat - 48)) r else none
def arcG (d : List UInt8) : Option Nat :=
  if d.length = 0 ∨ 10 < d.length ∨ (d.getD 0 0 = 48 ∧ 1 < d.length) then none else arcK 0 d
def arcI (o : Option Nat) : Int := match o with | none => -1 | some n => (n : Int)
theorem byte_eq48 (c : UInt8) : ((c.toNat : Int) == 48) = (c == 48) := byte_beq' c 48
theorem arcK_le : ∀ (l : List UInt8) (n v : Nat), arcK n l = some v → v ≤ 2147483647
  | [], n, v, h => by unfold arcK at h; split at h <;> simp at h; omega
  | c :: r, n, v, h => by
    unfold arcK at h
    split at h
    · exact arcK_le r _ v h
    · cases h
theorem arcG_le (d : List UInt8) (v : Nat) (h : arcG d = some v) : v ≤ 2147483647 := by
  unfold arcG at h
  split at h
  · cases h
  · exact arcK_le d 0 v h
theorem pow10_bd {n k : Nat} (h : n < 10 ^ k) (hk : k ≤ 10) : n < 10000000000 := by
  have := Nat.pow_le_pow_right (n := 10) (by omega) hk
  omega
theorem pow10_bd9 {n k : Nat} (h : n < 10 ^ k) (hk : k ≤ 9) : n < 1000000000 := by
  have := Nat.pow_le_pow_right (n := 10) (by omega) hk
  omega

set_option maxHeartbeats 2000000 in
theorem arc_any (s : ByteArray) (hs : s.size ≤ 1000000) (w : World) :
    Calls Tryd.prog 73 #[.string s] w fun e w' => e = .returned (.int .i64 (arcI (arcG s.data.toList))) ∧ w = w' := by
  have hsz := size_string s
  by_cases h0 : s.size = 0
  · have HR := hide (show arcG s.data.toList = none by rw [arcG, if_pos (.inl (by omega))])
    have hem : s.toList = [] := by rw [ByteArray.toList_eq]; exact List.eq_nil_of_length_eq_zero (by omega)
    rw [HR.out]
    clear hsz h0
    go_enter Tryd.func73, Tryd.ntmps73
    go_wp2_with fail
    go_ret
    exact ⟨rfl, rfl⟩
  · have hem : s.toList ≠ [] := by rw [ByteArray.toList_eq]; intro e; rw [e] at hsz; simp at hsz; omega
    have hem1 : (s.toList == []) = false := by simpa using hem
    have hem2 : s.toList.isEmpty = false := by simpa using hem
    clear hem
    by_cases h10 : 10 < s.size
    · have HR := hide (show arcG s.data.toList = none by rw [arcG, if_pos (.inr (.inl (by omega)))])
      rw [HR.out]
      clear hsz
      go_enter Tryd.func73, Tryd.ntmps73
      go_wp2_with fail
      go_ret
      exact ⟨rfl, rfl⟩
    · have hp : 0 < s.size := by omega
      have hd0 : s.data.toList.getD 0 0 = s[0] := by
        have := drop_string s 0 hp
        rw [List.drop_zero] at this
        rw [this]; rfl
      have hb0 := byte_eq48 s[0]
      have hpi : (0 : Int) < (s.size : Int) := by omega
      by_cases hz : s[0] = 48 ∧ 1 < s.size
      · have HR := hide (show arcG s.data.toList = none by rw [arcG, if_pos (.inr (.inr ⟨by rw [hd0]; exact hz.1, by omega⟩))])
        have ht : ((s[0].toNat : Int) == 48) = true := by rw [hb0]; simp [hz.1]
        obtain ⟨_, hz2⟩ := hz
        rw [HR.out]
        clear hsz hb0 hd0 h0
        go_enter Tryd.func73, Tryd.ntmps73
        go_wp2_with fail
        go_ret
        exact ⟨rfl, rfl⟩
      · have HR := hide (show arcG s.data.toList = arcK 0 s.data.toList by
          rw [arcG, if_neg]
          rw [hsz, hd0]
          rintro (h | h | h)
          · omega
          · omega
          · exact hz h)
        rw [HR.out]
        obtain ⟨r, hr⟩ : ∃ r, r = arcK 0 s.data.toList := ⟨_, rfl⟩
        rw [← hr]
        have HR2 := hide hr
        have hz' : ((s[0].toNat : Int) == 48) = false ∨ (((s[0].toNat : Int) == 48) = true ∧ s.size ≤ 1) := by
          rw [hb0]
          by_cases e : s[0] = 48
          · exact .inr ⟨by simp [e], by have : ¬ 1 < s.size := fun h => hz ⟨e, h⟩; omega⟩
          · exact .inl (by simp [e])
        clear hsz hb0 hd0 hz hr h0
        rcases hz' with ht | ⟨ht, ht2⟩
        all_goals
          go_enter Tryd.func73, Tryd.ntmps73
          go_wp2_with fail
          clear ht
          go_loop [3, 4] (fun a i => ∃ (k n : Nat), k ≤ s.size ∧ n < 10000000000 ∧ i = .int .i64 k ∧ a = .int .i64 n ∧ Hid (n < 10 ^ k) ∧ Hid (r = arcK n (s.data.toList.drop k))) (fun _ i => s.size - (intOf i).toNat)
          case atStart => exact ⟨0, 0, by omega, by omega, rfl, rfl, hide (by omega), HR2⟩
          case round =>
            obtain ⟨k, n, hk, hnb, rfl, rfl, HN, H⟩ := hrel
            by_cases hlt : k < s.size
            · have HD := drop_string s k hlt
              obtain ⟨c, hc⟩ : ∃ c, s[k] = c := ⟨_, rfl⟩
              rw [hc] at HD
              have hcb := byte_lt c
              have HX := hide (H.out.trans (congrArg (arcK n) HD))
              have hn9 := pow10_bd9 HN.out (by omega)
              clear HD
              by_cases hdg : 48 ≤ (c.toNat : Int) ∧ (c.toNat : Int) ≤ 57
              · have HY := hide (show r = arcK (10 * n + (c.toNat - 48)) (s.data.toList.drop (k + 1)) by rw [HX.out, arcK, if_pos (by simp [isDig]; omega)])
                have HN2 := hide (show 10 * n + (c.toNat - 48) < 10 ^ (k + 1) by have := HN.out; rw [Nat.pow_succ]; omega)
                obtain ⟨hd1, hd2⟩ := hdg
                go_wp2_with fail
                go_round
                case rel => exact ⟨k + 1, 10 * n + (c.toNat - 48), by omega, by omega, by go_num, by go_num, HN2, HY⟩
                case measure => simp [intOf]; omega
              · have HY := hide (show r = none by rw [HX.out, arcK, if_neg (by simp [isDig]; omega)])
                have hdg' : (c.toNat : Int) < 48 ∨ (48 ≤ (c.toNat : Int) ∧ 57 < (c.toNat : Int)) := by omega
                clear hdg
                rcases hdg' with hd1 | ⟨hd1, hd2⟩
                all_goals
                  go_wp2_with fail
                  go_ret
                  exact ⟨ret_int (by rw [HY.out]; rfl), rfl⟩
            · have HE := hide (drop_string_end s k (by omega))
              by_cases hbig : 2147483647 < n
              · have HY := hide (show r = none by rw [H.out, HE.out, arcK, if_pos hbig])
                go_wp2_with fail
                go_ret
                exact ⟨ret_int (by rw [HY.out]; rfl), rfl⟩
              · have HY := hide (show r = some n by rw [H.out, HE.out, arcK, if_neg hbig])
                go_wp2_with fail
                go_ret
                exact ⟨ret_int (by rw [HY.out]; rfl), rfl⟩

def rootB (a b : Nat) : Bool := (decide (a ≤ 1) && decide (b ≤ 39)) || decide (a = 2)
set_option maxHeartbeats 400000 in
theorem root_any (a b : Nat) (w : World) :
    Calls Tryd.prog 74 #[.int .i64 (a : Int), .int .i64 (b : Int)] w fun e w' => e = .returned (.bool (rootB a b)) ∧ w = w' := by
  have h2 : ((a : Int) == 2) = decide (a = 2) := by rw [Bool.eq_iff_iff]; simp; omega
  unfold rootB
  by_cases h1 : a ≤ 1
  · have h3 : decide (a = 2) = false := by simp; omega
    have h4 : ((a : Int) == 2) = false := by rw [h2, h3]
    rw [h3]
    clear h2 h3
    by_cases hb : b ≤ 39
    · go_enter Tryd.func74, Tryd.ntmps74
      go_wp2_with fail
      go_ret
      exact ⟨ret_bool (by simp), rfl⟩
    · go_enter Tryd.func74, Tryd.ntmps74
      go_wp2_with fail
      go_ret
      exact ⟨ret_bool (by simp [hb]; omega), rfl⟩
  · obtain ⟨p, hp⟩ : ∃ p, decide (a = 2) = p := ⟨_, rfl⟩
    rw [hp] at h2
    have H := hide (show (decide (a ≤ 1) && decide (b ≤ 39) || decide (a = 2)) = p by rw [hp]; simp [h1])
    clear hp
    rw [H.out]
    cases p
    all_goals
      go_enter Tryd.func74, Tryd.ntmps74
      go_wp2_with fail
      go_ret
      exact ⟨rfl, rfl⟩
end Go.Proofs.YtbafpgdmnkkclaaDoor

/- The functions of package oid: the arcs of a text. -/
namespace Go.Proofs.YtbafpgdmnkkclaaDoor
open Go.RowKit

theorem info_u8o : (Tryd.prog.info? 5).map (fun i => (i.zero, i.size, i.bytes)) = some (some (.int .u8 0), 1, 1) := by kernel_rfl
theorem info_int : (Tryd.prog.info? 3).map (fun i => (i.zero, i.size, i.bytes)) = some (some (.int .i64 0), 1, 8) := by kernel_rfl
def natC (n : Nat) : List Value := [.int .i64 (n : Int)]
abbrev RNat : Rep Nat := Pu natC
theorem RNat.ok : RepOk RNat 1 := Pu.ok (fun _ => rfl) (fun x u hu => by simp [natC] at hu; subst hu; rfl)
theorem news_nats (w : World) (S : Nat → Prop) (C : Array Value) (t : TypeId) (l : List Nat) (hC : C.toList = l.map fun (n : Nat) => Value.int .i64 (n : Int)) :
    ∀ i y, l[i]? = some y → ∃ cs, RNat (w.alloc (.cells C t)) S y cs ∧ ∀ j u, cs[j]? = some u → (w.alloc (.cells C t)).cell? ((⟨w.heap.size, 0, none⟩ : Addr).add (i * 1 + j)) = some u :=
  news_pu (f := natC) (size := 1) (fun _ => rfl) w S C t l (by
    rw [hC]
    clear hC
    induction l with
    | nil => rfl
    | cons x l ih => rw [List.map_cons, List.flatMap_cons, ih]; rfl)
theorem Own.natAt {e : TypeId} {w : World} {base : Nat} {S : Nat → Prop} {v : Value} {l : List Nat} (h : Own RNat 1 e w base S v l) {i : Nat} (hi : i < l.length) :
    ∃ g cap, v = .slice (some ⟨g, 0, none⟩) l.length cap ∧ base ≤ g ∧ g < w.heap.size ∧ l.length ≤ cap ∧ cap ≤ maxLen ∧ w.cell? ⟨g, i, none⟩ = some (.int .i64 (l[i] : Int)) := by
  obtain ⟨g, cap, ys, hv, hb, hg, hc, hm, hr, hh, _⟩ := h.at_ hi
  have hr' : ys = natC l[i] := hr
  subst hr'
  exact ⟨g, cap, hv, hb, hg, hc, hm, by simpa using hh 0 _ rfl⟩
theorem Sl.natAt {w : World} {S : Nat → Prop} {A : Option Addr} {n c : Nat} {l : List Nat} (h : Sl RNat 1 w S l [.slice A n c]) {i : Nat} (hi : i < l.length) :
    ∃ b off, A = some ⟨b, off, none⟩ ∧ S b ∧ w.cell? ⟨b, off + i, none⟩ = some (.int .i64 (l[i] : Int)) := by
  obtain ⟨b, off, xs, hA, hb, hr, hh⟩ := h.at_ hi
  have hr' : xs = natC l[i] := hr
  subst hr'
  exact ⟨b, off, hA, hb, by simpa using hh 0 _ rfl⟩

/-- what the program reads of the library: MaxLen is a number -/
def Mx (w : World) : Prop := ∃ m, w.cell? ⟨1, 0, none⟩ = some (.int .i64 m)
theorem Mx.below {w w' : World} (h : Mx w) (hb : Below w.heap.size w w') : Mx w' := by
  obtain ⟨m, hm⟩ := h
  exact ⟨m, (hb.cell (World.block_lt_of_cell? w _ hm)).trans hm⟩

def arcsL : List (List UInt8) → Option (List Nat)
  | [] => some []
  | p :: ps => (arcG p).bind fun n => (arcsL ps).map (n :: ·)
def rootL (o : Option (List Nat)) : Option (List Nat) := o.bind fun l => if rootB (l.getD 0 0) (l.getD 1 0) then some l else none
def arcsP (l : List UInt8) : Option (List Nat) :=
  if (splitC 46 l).length < 2 ∨ 12 < (splitC 46 l).length then none else rootL (arcsL (splitC 46 l))
theorem arcsL_len : ∀ (ps : List (List UInt8)) (l : List Nat), arcsL ps = some l → l.length = ps.length
  | [], l, h => by cases h; rfl
  | p :: ps, l, h => by
    obtain ⟨v, hv, h0⟩ := Option.bind_eq_some_iff.1 h
    obtain ⟨l', h1, rfl⟩ := Option.map_eq_some_iff.1 h0
    simp [arcsL_len ps l' h1]
theorem arcsL_le : ∀ (ps : List (List UInt8)) (l : List Nat), arcsL ps = some l → ∀ n ∈ l, n ≤ 2147483647
  | [], l, h => by cases h; intro n hn; cases hn
  | p :: ps, l, h => by
    obtain ⟨v, hv, h0⟩ := Option.bind_eq_some_iff.1 h
    obtain ⟨l', h1, rfl⟩ := Option.map_eq_some_iff.1 h0
    intro n hn
    rcases List.mem_cons.1 hn with rfl | hn
    · exact arcG_le p _ hv
    · exact arcsL_le ps l' h1 n hn
theorem rootL_some {o : Option (List Nat)} {l : List Nat} (h : rootL o = some l) : o = some l ∧ rootB (l.getD 0 0) (l.getD 1 0) = true := by
  unfold rootL at h
  cases o with
  | none => cases h
  | some l' =>
    simp only [Option.bind_some] at h
    split at h
    · rename_i hr
      cases h
      exact ⟨rfl, hr⟩
    · cases h
/-- what the arcs of a text are like -/
theorem arcsP_some {s : List UInt8} {l : List Nat} (h : arcsP s = some l) : 2 ≤ l.length ∧ l.length ≤ 12 ∧ (∀ n ∈ l, n ≤ 2147483647) ∧ rootB (l.getD 0 0) (l.getD 1 0) = true := by
  unfold arcsP at h
  split at h
  · cases h
  · rename_i hc
    obtain ⟨h1, h2⟩ := rootL_some h
    have := arcsL_len _ _ h1
    exact ⟨by omega, by omega, arcsL_le _ _ h1, h2⟩

def ArcsPost (w : World) (r : Option (List Nat)) (e : Ending) (w' : World) : Prop :=
  Below w.heap.size w w' ∧ match r with
    | none => e = .returned (.slice none 0 0)
    | some l => ∃ g c, e = .returned (.slice (some ⟨g, 0, none⟩) l.length c) ∧ w.heap.size ≤ g ∧ Sl RNat 1 w' (Lt w'.heap.size) l [.slice (some ⟨g, 0, none⟩) l.length c]
theorem ArcsPost.none {w : World} {e : Ending} {w' : World} (hb : Below w.heap.size w w') (he : e = .returned (.slice Option.none 0 0)) : ArcsPost w Option.none e w' := ⟨hb, he⟩

set_option maxHeartbeats 4000000 in
theorem arcs_any (s : ByteArray) (hs : s.size ≤ 1000000) (w : World) (hmx : Mx w) :
    Calls Tryd.prog 61 #[.string s] w (ArcsPost w (arcsP s.data.toList)) := by
  obtain ⟨m, hm⟩ := hmx
  have HM := hide hm
  clear hm
  obtain ⟨r, hr⟩ : ∃ r, r = arcsP s.data.toList := ⟨_, rfl⟩
  rw [← hr]
  obtain ⟨parts, hparts⟩ : ∃ parts, Lib.splitB ⟨#[46]⟩ 0 (Lib.countB s ⟨#[46]⟩) s = parts := ⟨_, rfl⟩
  have hlen : parts.length = Lib.countB s ⟨#[46]⟩ + 1 := by rw [← hparts]; exact splitB_len 46 s
  have hdata : (parts.map fun (x : ByteArray) => x.data.toList) = splitC 46 s.data.toList := by rw [← hparts]; exact splitB_C 46 s
  have hsl : (splitC 46 s.data.toList).length = parts.length := by rw [← hdata, List.length_map]
  have hcl := splitC_len 46 s.data.toList
  have hpl : parts.length ≤ 1000001 := by rw [size_string] at hcl; omega
  have HPL := hide (show ∀ p ∈ parts, p.size ≤ 1000000 from fun p hp => by
    have := splitC_mem_len 46 s.data.toList p.data.toList (by rw [← hdata]; exact List.mem_map.2 ⟨p, hp, rfl⟩)
    rw [size_string, size_string] at this
    omega)
  have hr2 : r = if parts.length < 2 ∨ 12 < parts.length then none else rootL (arcsL (parts.map fun (x : ByteArray) => x.data.toList)) := by rw [hr, arcsP, hsl, hdata]
  have HR := hide hr2
  have HPS := hide hparts
  have HLEN := hide hlen
  clear hr hparts hdata hsl hcl hlen hr2
  have hbase : w.heap.size ≤ w.heap.size := Nat.le_refl _
  go_enter Tryd.func61, Tryd.ntmps61
  go_wp2_with fail
  refine (Tryd.strings_Split s ⟨#[46]⟩ m _ (by omega) HM.out (Nat.le_refl 1)).mono ?_
  rintro e w1 ⟨rfl, hw1⟩
  rw [HPS.out, ← HLEN.out] at *
  obtain ⟨C, hC⟩ : ∃ C, C = (parts.map Value.string).toArray := ⟨_, rfl⟩
  rw [← hC] at hw1
  have hw1s : w1.heap.size = w.heap.size + 1 := by rw [hw1]; simp
  have hcell : ∀ i (h : i < parts.length), w1.cell? ⟨w.heap.size, i, none⟩ = some (.string parts[i]) := fun i hi => by
    rw [hw1, World.cell?_alloc_new, hC]; simp [hi]
  have hb1 : Below w.heap.size w w1 := by rw [hw1]; exact (Below.refl _ _).alloc (Nat.le_refl _) _
  have HC := hide hcell
  have HB1 := hide hb1
  have HW1S := hide hw1s
  clear hw1 hcell hb1 hw1s hC hbase
  by_cases hn : parts.length < 2 ∨ 12 < parts.length
  · have HX := hide (show r = none by rw [HR.out, if_pos hn])
    rcases hn with hn | hn
    all_goals
      go_wp2_with fail
      go_ret
      exact HX.out ▸ ⟨HB1.out, rfl⟩
  · have HX := hide (show r = rootL (arcsL (parts.map fun (x : ByteArray) => x.data.toList)) by rw [HR.out, if_neg hn])
    have hn1 : 2 ≤ parts.length := by omega
    have hn2 : parts.length ≤ 12 := by omega
    clear hn
    obtain ⟨base, hbase⟩ : ∃ base, base = w1.heap.size := ⟨_, rfl⟩
    have HBASE := hide hbase
    clear hbase
    go_wp2_with fail
    go_loopw [4, 20] (fun v i wr => ∃ (k : Nat) (out : List Nat), k ≤ parts.length ∧ out.length = k ∧ i = .int .i64 k ∧ Own RNat 1 3 wr base No v out ∧ Below base w1 wr ∧ Hid (arcsL (parts.map fun (x : ByteArray) => x.data.toList) = (arcsL ((parts.drop k).map fun (x : ByteArray) => x.data.toList)).map (out ++ ·))) (fun _ i _ => parts.length - (intOf i).toNat)
    case atStart => exact ⟨0, [], Nat.zero_le _, rfl, rfl, Own.nil _ _ _ _ _ _, Below.refl _ _, hide (by simp)⟩
    case round =>
      obtain ⟨k, out, hk, hol, rfl, hown, hb, H⟩ := hrel
      have HOL := hide hol
      have hol' : out.length ≤ k := by omega
      clear hol
      have hgs : base ≤ wr.heap.size := by have := hb.size; have := HBASE.out; omega
      have hwb : w.heap.size < base := by have := HBASE.out; have := HW1S.out; omega
      by_cases hlt : k < parts.length
      · have hcell : wr.cell? ⟨w.heap.size, k, none⟩ = some (.string parts[k]) := (hb.cell hwb).trans (HC.out k hlt)
        have hdr := List.drop_eq_getElem_cons hlt
        have hps := HPL.out parts[k] (List.getElem_mem hlt)
        obtain ⟨p, hp⟩ : ∃ p, parts[k] = p := ⟨_, rfl⟩
        rw [hp] at hcell hdr hps
        obtain ⟨o, ho⟩ : ∃ o, arcG p.data.toList = o := ⟨_, rfl⟩
        have HX2 := hide (show arcsL (parts.map fun (x : ByteArray) => x.data.toList) = (o.bind fun n => (arcsL ((parts.drop (k + 1)).map fun (x : ByteArray) => x.data.toList)).map (n :: ·)).map (out ++ ·) by
          rw [H.out, hdr, List.map_cons, arcsL, ho])
        have HO := hide ho
        clear hdr hp ho
        obtain ⟨A, cp, hv⟩ := (hown.sl RNat.ok).shape
        subst hv
        go_wp2_with fail
        refine (arc_any p hps _).mono ?_
        rintro e w2 ⟨rfl, rfl⟩
        rw [HO.out]
        cases o with
        | none =>
          have HN := hide (show r = none by rw [HX.out, HX2.out]; rfl)
          unfold arcI
          go_wp2_with fail
          go_ret
          exact HN.out ▸ ⟨HB1.out.trans (hb.mono (by omega)), rfl⟩
        | some n =>
          have hn := arcG_le _ _ HO.out
          have HX3 := hide (show arcsL (parts.map fun (x : ByteArray) => x.data.toList) = (arcsL ((parts.drop (k + 1)).map fun (x : ByteArray) => x.data.toList)).map ((out ++ [n]) ++ ·) by
            rw [HX2.out, Option.bind_some, Option.map_map]; congr 1; funext z; simp)
          unfold arcI
          simp only
          go_wp2_with (at_builtin; refine wpList_app RNat.ok _ rfl (.tmp 28) (.tmp 30) 22 rfl base 3 (.int .i64 0) 8 Tryd.underlying22 info_int rfl (by decide) No _ out rfl (hown.alloc RNat.ok (no_lt _) _) ⟨_, 0, none⟩ 1 1 [n] rfl rfl (news_nats _ _ _ _ [n] rfl) (no_lt _) (by simp; omega) (by simp [maxLen]; omega) (by simp; omega) ?_; intro v2 w2 hown2 hg2 hb2 hat2; have hsz2 := hb2.size; simp at hsz2)
          go_roundw
          case rel => exact ⟨k + 1, out ++ [n], by omega, by simp [HOL.out], by go_num, hown2, (below_alloc hb hgs _).trans hb2, HX3⟩
          case measure => simp [intOf]; omega
      · have hkl : k = parts.length := by omega
        have HX2 := hide (show arcsL (parts.map fun (x : ByteArray) => x.data.toList) = some out by rw [H.out, hkl]; simp [arcsL])
        have hol2 : out.length = parts.length := by rw [HOL.out, hkl]
        obtain ⟨g0, cap, hv, hbg, hgl, hgc, hgm, hc0⟩ := hown.natAt (i := 0) (by omega)
        obtain ⟨g1, cap1, hv1, _, _, _, _, hc1⟩ := hown.natAt (i := 1) (by omega)
        rw [hv] at hv1
        simp only [Value.slice.injEq, Option.some.injEq, Addr.mk.injEq, and_true, true_and] at hv1
        obtain ⟨rfl, rfl⟩ := hv1
        subst hv
        obtain ⟨a, ha⟩ : ∃ a, out[0]'(by omega) = a := ⟨_, rfl⟩
        obtain ⟨b, hb'⟩ : ∃ b, out[1]'(by omega) = b := ⟨_, rfl⟩
        rw [ha] at hc0
        rw [hb'] at hc1
        have HX3 := hide (show r = if rootB a b then some out else none by
          rw [HX.out, HX2.out, rootL, Option.bind_some]
          have e0 : out.getD 0 0 = a := by rw [← ha]; simp [List.getD, List.getElem?_eq_getElem (show 0 < out.length by omega)]
          have e1 : out.getD 1 0 = b := by rw [← hb']; simp [List.getD, List.getElem?_eq_getElem (show 1 < out.length by omega)]
          rw [e0, e1])
        have HSL := hide (fun n : Nat => (Sl.ok RNat.ok).mono (hown.sl RNat.ok) (w' := wr.drewN n) (S' := Lt wr.heap.size) (fun _ _ => rfl) (fun k hk => by rcases hk with h | h; exact h.elim; exact h.2))
        have HBD := hide (fun n => below_drewN (HB1.out.trans (hb.mono (by omega))) n)
        have hl1 : (1 : Int) < (out.length : Int) := by omega
        have hl0 : (0 : Int) < (out.length : Int) := by omega
        have HGB := hide (show w.heap.size ≤ g0 by omega)
        obtain ⟨q, hq⟩ : ∃ q, rootB a b = q := ⟨_, rfl⟩
        have HQ := hide hq
        clear hq ha hb' hown hb hgm
        go_wp2_with fail
        go_quiet ((go_at_call 74; exact quiet_left (root_any _ _ _)))
        rw [HQ.out]
        cases q
        · go_wp2_with fail
          go_ret
          have HE : r = none := by rw [HX3.out, HQ.out]; rfl
          exact HE ▸ ArcsPost.none (HBD.out _) rfl
        · go_wp2_with fail
          go_ret
          have HE : r = some out := by rw [HX3.out, HQ.out]; rfl
          refine HE ▸ ⟨HBD.out _, g0, cap, rfl, HGB.out, ?_⟩
          exact HSL.out _
end Go.Proofs.YtbafpgdmnkkclaaDoor

/- The functions of package oid: Valid, put, Encode. -/
namespace Go.Proofs.YtbafpgdmnkkclaaDoor
open Go.RowKit

def validB (l : List UInt8) : Bool := (arcsP l).isSome
theorem ofNat_byte (n : Nat) (h : n < 256) : ((UInt8.ofNat n).toNat : Int) = (n : Int) := by
  rw [UInt8.toNat_ofNat']; omega
theorem i64_and127 (a : Nat) (ha : a < 9223372036854775808) : bits .and .i64 (a : Int) 127 = (a : Int) % 128 := by
  have := i64_and_nat a 127 ha (by omega)
  rw [show a &&& 127 = a % 128 from Nat.and_two_pow_sub_one_eq_mod a 7] at this
  rw [show (127 : Int) = ((127 : Nat) : Int) from rfl, this]
  omega
theorem i64_or128 (a : Nat) : bits .or .i64 ((a : Int) % 128) 128 = ((UInt8.ofNat (a % 128 + 128)).toNat : Int) := by
  have h : ∀ n : Fin 128, bits .or .i64 ((n.1 : Nat) : Int) 128 = ((n.1 + 128 : Nat) : Int) := by decide +kernel
  rw [ofNat_byte _ (by omega), show (a : Int) % 128 = ((a % 128 : Nat) : Int) by omega]
  exact h ⟨a % 128, by omega⟩
def hiL (m : Nat) : List UInt8 := if _h : m = 0 then [] else hiL (m / 128) ++ [UInt8.ofNat (m % 128 + 128)]
termination_by m
decreasing_by omega
theorem hiL_pos {m : Nat} (h : 1 ≤ m) : hiL m = hiL (m / 128) ++ [UInt8.ofNat (m % 128 + 128)] := by rw [hiL, dif_neg (by omega)]
theorem hiL_zero : hiL 0 = [] := by rw [hiL, dif_pos rfl]
def putL (n : Nat) : List UInt8 := hiL (n / 128) ++ [UInt8.ofNat (n % 128)]
theorem pow7_div (n k : Nat) : n / 2 ^ (7 * (k + 1)) = n / 2 ^ (7 * k) / 128 := by
  rw [Nat.div_div_eq_div_mul]
  congr 1
  rw [Nat.mul_succ, Nat.pow_add]
theorem pow7_cast (n k : Nat) : (n : Int) / 2 ^ (7 * k) = ((n / 2 ^ (7 * k) : Nat) : Int) := by
  rw [Int.natCast_ediv, Int.natCast_pow]; rfl
theorem pow7_anti (n k : Nat) : n / 2 ^ (7 * (k + 1)) ≤ n / 2 ^ (7 * k) := by rw [pow7_div]; exact Nat.div_le_self _ _
theorem pow7_pos (n : Nat) : ∀ {i k : Nat}, i ≤ k → 1 ≤ n / 2 ^ (7 * k) → 1 ≤ n / 2 ^ (7 * i)
  | i, k, h, hk => by
    induction k with
    | zero => have : i = 0 := by omega
              subst this; exact hk
    | succ k ih =>
      rcases Nat.lt_or_ge k i with h' | h'
      · have : i = k + 1 := by omega
        subst this; exact hk
      · exact ih h' (Nat.le_trans hk (pow7_anti n k))

theorem hiL_len (m : Nat) (h : m ≤ 4294967295) : (hiL m).length ≤ 5 := by
  have z : ∀ m, m < 1 → (hiL m).length ≤ 0 := fun m h => by have : m = 0 := by omega
                                                            subst this; rw [hiL_zero]; simp
  have s : ∀ m b, (hiL (m / 128)).length ≤ b → (hiL m).length ≤ b + 1 := fun m b h => by
    rcases Nat.eq_zero_or_pos m with rfl | hm
    · rw [hiL_zero]; simp
    · rw [hiL_pos hm]; simp; exact h
  exact s _ _ (s _ _ (s _ _ (s _ _ (s _ _ (z _ (by omega))))))

set_option maxHeartbeats 4000000 in
theorem put_any (n : Nat) (hn : n ≤ 4294967295) (v : Value) (l : List UInt8) (base : Nat) (w : World) (hbase : base ≤ w.heap.size) (hown : Own RByte 1 5 w base No v l) (hl : l.length ≤ 1000) :
    Calls Tryd.prog 62 #[v, .int .i64 (n : Int)] w fun e w' => ∃ v', e = .returned v' ∧ Own RByte 1 5 w' base No v' (l ++ putL n) ∧ Below base w w' := by
  have HN := hide hn
  go_enter Tryd.func62, Tryd.ntmps62
  go_wp2_with fail
  go_loop [5] (fun i => ∃ (k : Nat), 1 ≤ k ∧ k ≤ 6 ∧ i = .int .i64 k ∧ Hid (k = 1 ∨ 1 ≤ n / 2 ^ (7 * (k - 1)))) (fun i => 7 - (intOf i).toNat)
  case atStart => exact ⟨1, by omega, by omega, rfl, hide (.inl rfl)⟩
  case round =>
    obtain ⟨k, hk1, hk2, rfl, H⟩ := hrel
    have hk5 : k ≤ 5 := by
      rcases Nat.lt_or_ge 5 k with h | h
      · have : k = 6 := by omega
        subst this
        rcases H.out with h | h
        · cases h
        · have := HN.out; omega
      · exact h
    have hc := pow7_cast n k
    obtain ⟨d, hd⟩ : ∃ d, n / 2 ^ (7 * k) = d := ⟨_, rfl⟩
    rw [hd] at hc
    have HD := hide hd
    clear hd
    by_cases hp : 1 ≤ d
    · have HP := hide hp
      have hp' : 0 < (n : Int) / 2 ^ (7 * k) := by rw [hc]; omega
      clear hc hp
      go_wp2_with fail
      go_round
      case rel => exact ⟨k + 1, by omega, by omega, by go_num, hide (.inr (by rw [Nat.add_sub_cancel, HD.out]; exact HP.out))⟩
      case measure => simp [intOf]; omega
    · have HZ := hide (show n / 2 ^ (7 * k) = 0 by rw [HD.out]; omega)
      have hp' : (n : Int) / 2 ^ (7 * k) ≤ 0 := by rw [hc]; omega
      have hown0 := hown
      clear hc hp HD d
      go_wp2_with fail
      clear hp'
      clear hown0
      go_loopw [0, 6] (fun v i wr => ∃ (j : Nat) (out : List UInt8), j < k ∧ i = .int .i64 j ∧ Own RByte 1 5 wr base No v out ∧ Below base w wr ∧ base ≤ wr.heap.size ∧ out.length + j ≤ 1010 ∧ Hid (out = l ++ hiL (n / 2 ^ (7 * (j + 1))))) (fun _ i _ => (intOf i).toNat)
      case atStart => exact ⟨k - 1, l, by omega, by go_num, hown, Below.refl _ _, hbase, by omega, hide (by rw [show k - 1 + 1 = k by omega, HZ.out, hiL_zero, List.append_nil])⟩
      case round =>
        obtain ⟨j, out, hj, rfl, hown, hb, hgs, hol, HO⟩ := hrel
        obtain ⟨A, cp, hv⟩ := (hown.sl RByte.ok).shape
        subst hv
        rcases Nat.eq_zero_or_pos j with rfl | hj0
        · have ha := i64_and127 n (by omega)
          have hc : (n : Int) % 128 = ((UInt8.ofNat (n % 128)).toNat : Int) := by rw [ofNat_byte _ (by omega)]; omega
          rw [hc] at ha
          obtain ⟨c, hcc⟩ : ∃ c, UInt8.ofNat (n % 128) = c := ⟨_, rfl⟩
          rw [hcc] at ha
          have HC := hide hcc
          have hcl := byte_lt c
          clear hc hcc
          have HP := hide (show out ++ [c] = l ++ putL n by rw [HO.out, ← HC.out, putL, List.append_assoc])
          go_wp2_with (first
            | (at_builtin; refine wpList_app RByte.ok _ rfl (.tmp 32) (.tmp 36) 56 rfl base 5 (.int .u8 0) 1 Tryd.underlying56 info_u8o rfl (by decide) No _ out rfl (hown.alloc RByte.ok (no_lt _) _) ⟨_, 0, none⟩ 1 1 [c] rfl rfl (news_bytes _ _ _ _ [c] rfl) (no_lt _) (by simp; omega) (by simp [maxLen]; omega) (by simp; omega) ?_; intro v2 w2 hown2 hg2 hb2 hat2; have hsz2 := hb2.size; simp at hsz2))
          go_ret
          exact ⟨_, rfl, HP.out ▸ hown2, (below_alloc hb hgs _).trans hb2⟩
        · obtain ⟨d, hd⟩ : ∃ d, n / 2 ^ (7 * j) = d := ⟨_, rfl⟩
          have hc := pow7_cast n j
          rw [hd] at hc
          have hdn : d ≤ n := by rw [← hd]; exact Nat.div_le_self _ _
          have hd1 : 1 ≤ d := by
            rw [← hd]
            refine pow7_pos n (show j ≤ k - 1 by omega) ?_
            rcases H.out with h | h
            · omega
            · exact h
          have ha := i64_and127 d (by omega)
          have ho := i64_or128 d
          obtain ⟨c, hcc⟩ : ∃ c, UInt8.ofNat (d % 128 + 128) = c := ⟨_, rfl⟩
          rw [hcc] at ho
          have hcl := byte_lt c
          have HP := hide (show out ++ [c] = l ++ hiL (n / 2 ^ (7 * (j - 1 + 1))) by
            rw [HO.out, show j - 1 + 1 = j by omega, hd, hiL_pos hd1, hcc, pow7_div, hd, List.append_assoc])
          clear hcc hd hd1
          go_wp2_with (first
            | (at_builtin; refine wpList_app RByte.ok _ rfl (.tmp 21) (.tmp 30) 56 rfl base 5 (.int .u8 0) 1 Tryd.underlying56 info_u8o rfl (by decide) No _ out rfl (hown.alloc RByte.ok (no_lt _) _) ⟨_, 0, none⟩ 1 1 [c] rfl rfl (news_bytes _ _ _ _ [c] rfl) (no_lt _) (by simp; omega) (by simp [maxLen]; omega) (by simp; omega) ?_; intro v2 w2 hown2 hg2 hb2 hat2; have hsz2 := hb2.size; simp at hsz2))
          go_roundw
          case rel => exact ⟨j - 1, out ++ [c], by omega, by go_num, hown2, (below_alloc hb hgs _).trans hb2, by omega, by simp; omega, HP⟩
          case measure => simp [intOf]; omega
theorem put_int (n : Nat) (N : Int) (hN : N = (n : Int)) (hn : n ≤ 4294967295) (v : Value) (l : List UInt8) (base : Nat) (w : World) (hbase : base ≤ w.heap.size) (hown : Own RByte 1 5 w base No v l) (hl : l.length ≤ 1000) :
    Calls Tryd.prog 62 #[v, .int .i64 N] w fun e w' => ∃ v', e = .returned v' ∧ Own RByte 1 5 w' base No v' (l ++ putL n) ∧ Below base w w' := by
  subst hN
  exact put_any n hn v l base w hbase hown hl
end Go.Proofs.YtbafpgdmnkkclaaDoor

/- The functions of package oid: Encode. -/
namespace Go.Proofs.YtbafpgdmnkkclaaDoor
open Go.RowKit

def encR (o : Option (List UInt8)) : Value := .tuple #[.string ⟨(o.getD []).toArray⟩, .int .i64 (if o.isSome then 0 else 11)]
def encL (l : List Nat) : List UInt8 := putL (40 * l.getD 0 0 + l.getD 1 0) ++ (l.drop 2).flatMap putL
def encP (s : List UInt8) : Option (List UInt8) := (arcsP s).map encL
theorem putL_len (n : Nat) (h : n ≤ 4294967295) : (putL n).length ≤ 6 := by
  have := hiL_len (n / 128) (by omega)
  simp [putL]; omega
theorem rootB_le {a b : Nat} (h : rootB a b = true) : a ≤ 2 := by
  unfold rootB at h
  simp at h
  omega
theorem ret_encN {o : Option (List UInt8)} (h : o = none) : Ending.returned (.tuple #[.string ⟨#[]⟩, .int .i64 11]) = Ending.returned (encR o) := by subst h; rfl
theorem ret_encS {o : Option (List UInt8)} {l : List UInt8} (h : o = some l) : Ending.returned (.tuple #[.string ⟨l.toArray⟩, .int .i64 0]) = Ending.returned (encR o) := by subst h; rfl

set_option maxHeartbeats 4000000 in
theorem Encode_any (s : ByteArray) (hs : s.size ≤ 1000000) (w : World) (hmx : Mx w) :
    Calls Tryd.prog 43 #[.string s] w fun e w' => e = .returned (encR (encP s.data.toList)) ∧ Below w.heap.size w w' := by
  have HMX := hide hmx
  clear hmx
  obtain ⟨r, hr⟩ : ∃ r, arcsP s.data.toList = r := ⟨_, rfl⟩
  rw [encP, hr]
  have HR := hide hr
  clear hr
  go_enter Tryd.func43, Tryd.ntmps43
  go_wp2_with fail
  refine (arcs_any s hs _ HMX.out).mono ?_
  rw [HR.out]
  rintro e w1 ⟨hb, h⟩
  cases r with
  | none =>
    subst h
    have hq := fun W : World => Lib.run_eql_slice_nil (P := Tryd.prog) W 22 3 none 0 0 0 0 Tryd.underlying22
    go_wp2_with fail
    go_ret2
    exact ⟨rfl, hb⟩
  | some l =>
    obtain ⟨g, c, rfl, hg, hsl⟩ := h
    obtain ⟨h2, h12, hle, hroot⟩ := arcsP_some HR.out
    have hq := fun W : World => Lib.run_eql_slice_nil (P := Tryd.prog) W 22 3 (some ⟨g, 0, none⟩) l.length c 0 0 Tryd.underlying22
    obtain ⟨-, hlc, -⟩ := hsl.len_
    have hcell : ∀ i (h : i < l.length), w1.cell? ⟨g, i, none⟩ = some (.int .i64 (l[i] : Int)) := fun i hi => by
      obtain ⟨b, off, hA, hb', hc⟩ := hsl.natAt hi
      cases hA
      simpa using hc
    obtain ⟨b0, o0, hA, hgl, -⟩ := hsl.natAt (i := 0) (by omega)
    cases hA
    have hgl' : g < w1.heap.size := hgl
    have h0 := hcell 0 (by omega)
    have h1 := hcell 1 (by omega)
    have HCELL := hide hcell
    obtain ⟨a, ha⟩ : ∃ a, l[0]'(by omega) = a := ⟨_, rfl⟩
    obtain ⟨b, hbb⟩ : ∃ b, l[1]'(by omega) = b := ⟨_, rfl⟩
    rw [ha] at h0
    rw [hbb] at h1
    have e0 : l.getD 0 0 = a := by rw [← ha]; simp [List.getD, List.getElem?_eq_getElem (show 0 < l.length by omega)]
    have e1 : l.getD 1 0 = b := by rw [← hbb]; simp [List.getD, List.getElem?_eq_getElem (show 1 < l.length by omega)]
    rw [e0, e1] at hroot
    have ha2 := rootB_le hroot
    have hb2 : b ≤ 2147483647 := by rw [← hbb]; exact hle _ (List.getElem_mem _)
    have HE := hide (show encL l = putL (40 * a + b) ++ (l.drop 2).flatMap putL by rw [encL, e0, e1])
    have HLE := hide hle
    have HB := hide hb
    clear e0 e1 hroot ha hbb hle hsl hcell hb
    have hi0 : (0 : Int) < (l.length : Int) := by omega
    have hi1 : (1 : Int) < (l.length : Int) := by omega
    have hw1 : IntKind.i64.wrap (40 * (a : Int)) = 40 * (a : Int) := IntWalk.i64_in _ (by omega)
    have hw2 : IntKind.i64.wrap (40 * (a : Int) + (b : Int)) = 40 * (a : Int) + (b : Int) := IntWalk.i64_in _ (by omega)
    have hix0 : (0 : Nat) < l.length := by omega
    have hix1 : (1 : Nat) < l.length := by omega

    go_wp2_with fail
    go_region_held3 (fun W => W.cell? ⟨g, 0, none⟩ = some (.int .i64 (a : Int)) ∧ W.cell? ⟨g, 1, none⟩ = some (.int .i64 (b : Int)))
      (first | exact ⟨h0, h1⟩ | exact ⟨(hb9.cell hgl').trans h0, (hb9.cell hgl').trans h1⟩)
      ((go_at_call 62; refine (put_int (40 * a + b) _ (by omega) (by omega) _ [] w1.heap.size _ (by simp) (Own.nil _ _ _ _ _ _) (by simp)).mono ?_; rintro e w9 ⟨v9, rfl, hown9, hb9⟩))
    all_goals
      clear hw1 hw2 hi0 hi1 hix0 hix1 h0 h1
      rw [List.nil_append] at hown9
      have hpl := putL_len (40 * a + b) (by omega)
      have hs9 := hb9.size
      obtain ⟨m, hm⟩ : ∃ m, l.length - 2 = m := ⟨_, rfl⟩
      have hlm : l.length = m + 2 := by omega
      have hm10 : m ≤ 10 := by omega
      go_wp2_with fail
    all_goals
      have hwb : w1.heap.size ≤ w9.heap.size := hs9
      obtain ⟨base, hbase⟩ : ∃ base, base = w1.heap.size := ⟨_, rfl⟩
      rw [← hbase] at hown9 hgl' hwb
      have HBASE := hide hbase
      have HB9 := hide hb9
      clear hm hbase hs9 hb9
      go_loopw [5, 24] (fun v i wr => ∃ (k : Nat) (out : List UInt8), k ≤ m ∧ i = .int .i64 k ∧ Own RByte 1 5 wr base No v out ∧ Below base w9 wr ∧ base ≤ wr.heap.size ∧ out.length ≤ 6 * k + 6 ∧ Hid (encL l = out ++ (l.drop (2 + k)).flatMap putL)) (fun _ i _ => m - (intOf i).toNat)
      case atStart => exact ⟨0, _, by omega, rfl, hown9, Below.refl _ _, hwb, by omega, HE⟩
      case round =>
        obtain ⟨k, out, hk, rfl, hown, hb, hgs, hol, HO⟩ := hrel
        by_cases hlt : k < m
        · first
          | (exfalso; omega)
          | (have hcell : wr.cell? ⟨g, 2 + k, none⟩ = some (.int .i64 (l[2 + k]'(by omega) : Int)) := (hb.cell hgl').trans (((HB9.out).cell (HBASE.out ▸ hgl')).trans (HCELL.out (2 + k) (by omega)))
             have hle := HLE.out (l[2 + k]'(by omega)) (List.getElem_mem _)
             have hd := List.drop_eq_getElem_cons (show 2 + k < l.length by omega)
             obtain ⟨x, hx⟩ : ∃ x, l[2 + k]'(by omega) = x := ⟨_, rfl⟩
             rw [hx] at hcell hle hd
             have HP := hide (show encL l = (out ++ putL x) ++ (l.drop (2 + (k + 1))).flatMap putL by
               rw [HO.out, hd, List.flatMap_cons, List.append_assoc]; rfl)
             have hplx := putL_len x (by omega)
             clear hx hd
             go_wp2_with fail
             refine (put_any x (by omega) _ out base _ hgs hown (by omega)).mono ?_
             rintro e w3 ⟨v3, rfl, hown3, hb3⟩
             have hs3 := hb3.size
             go_wp2_with fail
             go_roundw
             case rel => exact ⟨k + 1, out ++ putL x, by omega, by go_num, hown3, hb.trans hb3, by omega, by simp; omega, HP⟩
             case measure => simp [intOf]; omega)
        · have hkm : k = m := by omega
          have HP := hide (show encL l = out by rw [HO.out, List.drop_of_length_le (by omega)]; simp)
          have hconv := run_bts_str (P := Tryd.prog) wr 56 9 5 Tryd.underlying56 Tryd.underlying5 Tryd.underlying9 _ _ _ (hown.sl RByte.ok)
          go_wp2_with fail
          go_ret2
          exact ⟨ret_encS (by rw [← HP.out]; rfl), HB.out.trans ((((Below.refl w1.heap.size w1).drew).trans (HB9.out.trans (HBASE.out ▸ hb))).mono (by have := HB.out.size; omega))⟩
end Go.Proofs.YtbafpgdmnkkclaaDoor

/- The functions of package oid: Less, Under. -/
namespace Go.Proofs.YtbafpgdmnkkclaaDoor
open Go.RowKit

def lessL : List Nat → List Nat → Bool
  | [], [] => false
  | [], _ :: _ => true
  | _ :: _, [] => false
  | a :: x, b :: y => if a = b then lessL x y else decide (a < b)
def lessO : Option (List Nat) → Option (List Nat) → Bool
  | some x, some y => lessL x y
  | _, _ => false
def lessP (a b : List UInt8) : Bool := lessO (arcsP a) (arcsP b)
theorem lessL_end : ∀ (x y : List Nat), (x = [] ∨ y = []) → lessL x y = decide (x.length < y.length)
  | [], [], _ => rfl
  | [], _ :: _, _ => by simp [lessL]
  | _ :: _, [], _ => by simp [lessL]
  | _ :: _, _ :: _, h => by rcases h with h | h <;> cases h

/-- the two slices of arcs, cell by cell -/
def NatsAt (w : World) (g : Nat) (l : List Nat) : Prop := ∀ i (h : i < l.length), w.cell? ⟨g, i, none⟩ = some (.int .i64 (l[i] : Int))
theorem Sl.nats {w : World} {S : Nat → Prop} {g : Nat} {n c : Nat} {l : List Nat} (h : Sl RNat 1 w S l [.slice (some ⟨g, 0, none⟩) n c]) : NatsAt w g l := fun i hi => by
  obtain ⟨b, off, hA, hb', hc⟩ := h.natAt hi
  cases hA
  simpa using hc
theorem Sl.nats_lt {w : World} {S : Nat → Prop} {g : Nat} {n c : Nat} {l : List Nat} (h : Sl RNat 1 w S l [.slice (some ⟨g, 0, none⟩) n c]) (h0 : 0 < l.length) : S g := by
  obtain ⟨b, off, hA, hb', hc⟩ := h.natAt h0
  cases hA
  exact hb'
theorem NatsAt.below {w w' : World} {g : Nat} {l : List Nat} (h : NatsAt w g l) {B : Nat} (hg : g < B) (hb : Below B w w') : NatsAt w' g l := fun i hi => (hb.cell hg).trans (h i hi)



def underP (s b : List UInt8) : Bool := validB s && validB b && (decide (s = b) || Lib.hasPrefix s (b ++ [46]))
end Go.Proofs.YtbafpgdmnkkclaaDoor

/- The reference of package oid: arcs. -/
namespace Go.Proofs.YtbafpgdmnkkclaaDoor
open Go.RowKit

def arcM (d : List UInt8) (n : Nat) : Option Nat := if n = 12 then none else arcG d
def refG : List UInt8 → Nat → List UInt8 → Option (List Nat)
  | d, n, [] => (arcM d n).map fun v => [v]
  | d, n, c :: r => if c = 46 then (arcM d n).bind fun v => (refG [] (n + 1) r).map (v :: ·) else if isDig c then refG (d ++ [c]) n r else none
def refEnd (l : List Nat) : Option (List Nat) := if l.length < 2 ∨ 2 < l.getD 0 0 ∨ (l.getD 0 0 < 2 ∧ 39 < l.getD 1 0) then none else some l
def refP (s : List UInt8) : Option (List Nat) := (refG [] 0 s).bind refEnd

/-! the reference's arcs are the program's -/
theorem arcK_no : ∀ (l : List UInt8) (n : Nat) (c : UInt8), c ∈ l → isDig c = false → arcK n l = none
  | [], _, _, h, _ => by cases h
  | x :: r, n, c, h, hc => by
    unfold arcK
    split
    · rcases List.mem_cons.1 h with rfl | h
      · rename_i hx; rw [hc] at hx; cases hx
      · exact arcK_no r _ c h hc
    · rfl
theorem arcG_no (l : List UInt8) (c : UInt8) (h : c ∈ l) (hc : isDig c = false) : arcG l = none := by
  unfold arcG
  split
  · rfl
  · exact arcK_no l 0 c h hc
def joinH (d : List UInt8) : List (List UInt8) → List (List UInt8)
  | [] => [d]
  | p :: ps => (d ++ p) :: ps
theorem joinH_nil {l : List (List UInt8)} (h : l ≠ []) : joinH [] l = l := by
  cases l with
  | nil => exact absurd rfl h
  | cons p ps => rfl
theorem refG_arcs : ∀ (r d : List UInt8) (n : Nat), n ≤ 12 → refG d n r = if n + (joinH d (splitC 46 r)).length ≤ 12 then arcsL (joinH d (splitC 46 r)) else none
  | [], d, n, hn => by
    rw [refG, arcM, splitC, joinH, List.append_nil]
    by_cases h : n = 12
    · rw [if_pos h, if_neg (by simp; omega)]; rfl
    · rw [if_neg h, if_pos (by simp; omega), arcsL, arcsL]
      cases arcG d <;> rfl
  | c :: r, d, n, hn => by
    rw [refG, splitC]
    by_cases hc : c = 46
    · rw [if_pos hc, if_pos hc, joinH, List.append_nil, arcM]
      by_cases h : n = 12
      · rw [if_pos h, if_neg (by simp; omega)]; rfl
      · have ih := refG_arcs r [] (n + 1) (by omega)
        rw [joinH_nil (splitC_ne 46 r)] at ih
        rw [if_neg h, ih, arcsL, List.length_cons]
        by_cases h2 : n + 1 + (splitC 46 r).length ≤ 12
        · rw [if_pos h2, if_pos (by omega)]
        · rw [if_neg h2, if_neg (by omega)]
          cases arcG d <;> rfl
    · rw [if_neg hc, if_neg hc]
      obtain ⟨p, ps, hp⟩ := List.exists_cons_of_ne_nil (splitC_ne 46 r)
      by_cases hd : isDig c = true
      · have ih := refG_arcs r (d ++ [c]) n hn
        rw [if_pos hd, ih, hp]
        simp only [joinH, List.append_assoc, List.singleton_append]
        rfl
      · rw [if_neg hd, hp]
        simp only [joinH]
        rw [arcsL, arcG_no (d ++ c :: p) c (by simp) (by simpa using hd)]
        simp
        exact (ite_self none).symm
theorem refP_arcsP (s : List UInt8) : refP s = arcsP s := by
  rw [refP, refG_arcs s [] 0 (by omega), joinH_nil (splitC_ne 46 s), Nat.zero_add, arcsP]
  by_cases h12 : (splitC 46 s).length ≤ 12
  · rw [if_pos h12]
    by_cases h2 : (splitC 46 s).length < 2
    · rw [if_pos (.inl h2)]
      cases hl : arcsL (splitC 46 s) with
      | none => rfl
      | some l => rw [Option.bind_some, refEnd, if_pos (.inl (by rw [arcsL_len _ _ hl]; exact h2))]
    · rw [if_neg (by omega), rootL]
      cases hl : arcsL (splitC 46 s) with
      | none => rfl
      | some l =>
        rw [Option.bind_some, Option.bind_some, refEnd]
        have := arcsL_len _ _ hl
        generalize l.getD 0 0 = A
        generalize l.getD 1 0 = B
        by_cases hr : rootB A B = true
        · rw [if_pos hr, if_neg]
          simp [rootB] at hr
          omega
        · rw [if_neg hr, if_pos]
          simp [rootB] at hr
          omega
  · rw [if_neg h12, if_pos (.inr (by omega))]; rfl

def RefRel (s : ByteArray) (r : Option (List Nat)) (k a : Nat) (out : List Nat) : Prop :=
  (k ≤ s.size ∧ a ≤ k ∧ (∀ c ∈ (s.extract a k).data.toList, isDig c = true) ∧ r = (refG (s.extract a k).data.toList out.length (s.data.toList.drop k)).map (out ++ ·)) ∨ (k = s.size + 1 ∧ r = some out)
theorem ext_nil (s : ByteArray) (a : Nat) : (s.extract a a).data.toList = [] := by
  rw [Lib.extract_data]; simp
theorem ext_snoc (s : ByteArray) (a k : Nat) (ha : a ≤ k) (hk : k < s.size) : (s.extract a (k + 1)).data.toList = (s.extract a k).data.toList ++ [s[k]] := by
  rw [Lib.extract_data, Lib.extract_data, show k + 1 - a = (k - a) + 1 by omega]
  rw [List.take_add_one]
  congr 1
  rw [List.getElem?_drop, show a + (k - a) = k by omega, List.getElem?_eq_getElem (by rw [size_string]; exact hk)]
  rfl
theorem RefRel.init (s : ByteArray) : RefRel s (refG [] 0 s.data.toList) 0 0 [] := by
  refine .inl ⟨Nat.zero_le _, Nat.le_refl _, by rw [ext_nil]; simp, ?_⟩
  rw [ext_nil]
  simp
theorem RefRel.digit {s : ByteArray} {r : Option (List Nat)} {k a : Nat} {out : List Nat} (h : RefRel s r k a out) (hk : k < s.size) (hc : s[k] ≠ 46) (hd : isDig s[k] = true) : RefRel s r (k + 1) a out := by
  rcases h with ⟨h1, h2, h3, h4⟩ | ⟨h1, _⟩
  · refine .inl ⟨hk, by omega, ?_, ?_⟩
    · rw [ext_snoc s a k h2 hk]
      intro c hc'
      rcases List.mem_append.1 hc' with h | h
      · exact h3 c h
      · simp at h; subst h; exact hd
    · rw [ext_snoc s a k h2 hk, h4, drop_string s k hk, refG, if_neg hc, if_pos hd]
  · omega
theorem RefRel.bad {s : ByteArray} {r : Option (List Nat)} {k a : Nat} {out : List Nat} (h : RefRel s r k a out) (hk : k < s.size) (hc : s[k] ≠ 46) (hd : isDig s[k] = false) : r = none := by
  rcases h with ⟨h1, h2, h3, h4⟩ | ⟨h1, _⟩
  · rw [h4, drop_string s k hk, refG, if_neg hc, if_neg (by rw [hd]; simp)]; rfl
  · omega
theorem RefRel.pieceN {s : ByteArray} {r : Option (List Nat)} {k a : Nat} {out : List Nat} (h : RefRel s r k a out) (hk : k = s.size ∨ ∃ h : k < s.size, s[k] = 46) (hm : arcM (s.extract a k).data.toList out.length = none) : r = none := by
  rcases h with ⟨h1, h2, h3, h4⟩ | ⟨h1, _⟩
  · rcases hk with rfl | ⟨hk, hc⟩
    · rw [h4, drop_string_end s s.size (Nat.le_refl _), refG, hm]; rfl
    · rw [h4, drop_string s k hk, refG, if_pos hc, hm]; rfl
  · rcases hk with hk | ⟨hk, _⟩ <;> omega
theorem RefRel.pieceS {s : ByteArray} {r : Option (List Nat)} {k a : Nat} {out : List Nat} (h : RefRel s r k a out) (hk : k = s.size ∨ ∃ h : k < s.size, s[k] = 46) {v : Nat} (hm : arcM (s.extract a k).data.toList out.length = some v) : RefRel s r (k + 1) (k + 1) (out ++ [v]) := by
  rcases h with ⟨h1, h2, h3, h4⟩ | ⟨h1, _⟩
  · rcases hk with rfl | ⟨hk, hc⟩
    · refine .inr ⟨rfl, ?_⟩
      rw [h4, drop_string_end s s.size (Nat.le_refl _), refG, hm]; rfl
    · refine .inl ⟨hk, Nat.le_refl _, by rw [ext_nil]; simp, ?_⟩
      rw [h4, drop_string s k hk, refG, if_pos hc, hm, ext_nil, Option.bind_some, Option.map_map, List.length_append]
      congr 1
      funext z
      simp
  · rcases hk with hk | ⟨hk, _⟩ <;> omega
end Go.Proofs.YtbafpgdmnkkclaaDoor
