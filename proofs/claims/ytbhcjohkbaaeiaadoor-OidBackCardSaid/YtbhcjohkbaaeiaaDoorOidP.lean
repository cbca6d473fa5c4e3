/- The valid object identifiers that the laws of package oid try: id. -/
import Derived.Test.YtbhcjohkbaaeiaaDoorOidN
import Derived.Test.YtbhcjohkbaaeiaaDoorLib3
import Derived.Test.YtbhcjohkbaaeiaaDoorLibRowK
namespace Go.Proofs.YtbhcjohkbaaeiaaDoor
open Go.RowKit

def shiftA (x : Nat) : Nat := x / 2 ^ (x % 32) % 2147483648
def idA : List Nat → List Nat
  | [] => [2, 999]
  | x :: r => (x % 3) :: (x / 3 % 40) :: (r.take 7).map shiftA
def idL (l : List Int) : List Nat := idA (l.map Int.toNat)
theorem valid_id (l : List Nat) : ValidA (idA l) := by
  cases l with
  | nil => exact ⟨by decide, by decide, by decide, by decide⟩
  | cons x r =>
    refine ⟨by simp [idA], by simp [idA]; omega, ?_, ?_⟩
    · intro n hn
      simp only [idA, List.mem_cons, List.mem_map] at hn
      rcases hn with rfl | rfl | ⟨y, _, rfl⟩
      · omega
      · omega
      · unfold shiftA; omega
    · show rootB (x % 3) (x / 3 % 40) = true
      unfold rootB
      simp
      omega
/-- the first two arcs -/
def idH (l : List Nat) : Nat × Nat := match l with | [] => (2, 999) | x :: _ => (x % 3, x / 3 % 40)
theorem idA_head (l : List Nat) : idA l = (idH l).1 :: (idH l).2 :: ((l.drop 1).take 7).map shiftA := by cases l <;> rfl
theorem i64_and31 (a : Nat) (ha : a < 9223372036854775808) : bits .and .i64 (a : Int) 2147483647 = ((a % 2147483648 : Nat) : Int) := by
  have := i64_and_nat a 2147483647 ha (by omega)
  rw [show a &&& 2147483647 = a % 2147483648 from Nat.and_two_pow_sub_one_eq_mod a 31] at this
  rw [show (2147483647 : Int) = ((2147483647 : Nat) : Int) from rfl, this]
theorem show_two (a b : Nat) : showL [a, b] = decL a ++ 46 :: decL b := rfl
/-- the state of a region that reads one cell and calls what allocates -/
theorem heldB {W0 W w9 : World} {p : Addr} {v : Value} (h : Below W0.heap.size W0 W) (hb : Below W.heap.size W w9) (hc : W.cell? p = some v) : Below W0.heap.size W0 w9 ∧ w9.cell? p = some v :=
  ⟨h.trans (hb.mono h.size), cell_grows hb _ _ hc⟩


set_option maxRecDepth 100000 in
set_option maxHeartbeats 4000000 in
theorem id_any (l : List Int) (A : Option Addr) (n c : Nat) (w : World) (h : Sl (RIntK .u32) 1 w (Lt w.heap.size) l [.slice A n c]) (hwf : ∀ x ∈ l, (Lit.int .u32 x).wf = true) :
    Calls Tryd.prog 14 #[.slice A n c] w fun e w' => e = .returned (.string ⟨(showL (idL l)).toArray⟩) ∧ Below w.heap.size w w' := by
  obtain ⟨hn, hnc, hcm⟩ := h.len_
  obtain rfl := hn
  unfold maxLen at hcm
  have K := hide h
  have hwf2 : ∀ x ∈ l, ∃ m : Nat, x = (m : Int) ∧ m < 4294967296 := fun x hx => by
    have := hwf x hx
    have hb : 0 ≤ x ∧ x ≤ 4294967295 := by simpa [Lit.wf, IntKind.min, IntKind.max, IntKind.signed, IntKind.bits] using this
    exact ⟨x.toNat, by omega, by omega⟩
  have HWF := hide hwf2
  obtain ⟨a, ha⟩ : ∃ a, (idH (l.map Int.toNat)).1 = a := ⟨_, rfl⟩
  obtain ⟨b, hb⟩ : ∃ b, (idH (l.map Int.toNat)).2 = b := ⟨_, rfl⟩
  have HI := hide (show idL l = a :: b :: (((l.map Int.toNat).drop 1).take 7).map shiftA by rw [idL, idA_head, ha, hb])
  have hab : a ≤ 2 ∧ b ≤ 999 := by
    rw [← ha, ← hb]
    cases l with
    | nil => decide
    | cons x r => show x.toNat % 3 ≤ 2 ∧ x.toNat / 3 % 40 ≤ 999; omega
  obtain ⟨ha2, hb9⟩ := hab
  clear h hwf hwf2
  by_cases h0 : 0 < l.length
  · obtain ⟨bk, off, xs, hA, hbS, hx, hcell⟩ := K.out.at_ h0
    have hxs : xs = [.int .u32 l[0]] := hx
    subst hxs
    have hc0 := hcell 0 _ rfl
    obtain ⟨m, hm, hm2⟩ := HWF.out l[0] (List.getElem_mem h0)
    rw [hm] at hc0
    have ha' : (m : Int) % 3 = (a : Int) := by
      rw [← ha]
      match l, h0, hm with
      | x :: r, _, hm =>
        have hm' : x = (m : Int) := hm
        show (m : Int) % 3 = ((x.toNat % 3 : Nat) : Int)
        omega
    have hb' : (m : Int) / 3 % 40 = (b : Int) := by
      rw [← hb]
      match l, h0, hm with
      | x :: r, _, hm =>
        have hm' : x = (m : Int) := hm
        show (m : Int) / 3 % 40 = ((x.toNat / 3 % 40 : Nat) : Int)
        omega
    simp only [Nat.zero_mul, Nat.add_zero] at hc0
    subst hA
    have HX := hide ha
    have HY := hide hb
    have hi0 : (0 : Int) < (l.length : Int) := by omega
    clear hcell hx hm ha hb
    go_enter Tryd.func14, Tryd.ntmps14
    go_wp2_with fail
    go_quiet (fail)
    have hla := decL_len 9 a (by omega)
    have hlb := decL_len 9 b (by omega)
    obtain ⟨oa, hoa⟩ : ∃ oa : ByteArray, oa = (⟨(decL a).toArray⟩ : ByteArray) := ⟨_, rfl⟩
    obtain ⟨ob, hob⟩ : ∃ ob : ByteArray, ob = (⟨(decL b).toArray⟩ : ByteArray) := ⟨_, rfl⟩
    have hbs1 : oa.size ≤ 10 := by rw [hoa]; exact hla
    have hbs2 : ob.size ≤ 10 := by rw [hob]; exact hlb
    have hd1 : (⟨#[46]⟩ : ByteArray).size = 1 := rfl
    have hbs3 : (oa ++ ⟨#[46]⟩).size ≤ 11 := by rw [ba_size]; omega
    have hbs4 : (oa ++ ⟨#[46]⟩ ++ ob).size ≤ 30 := by rw [ba_size]; omega
    have HO0 := hide (show (oa ++ ⟨#[46]⟩ ++ ob).data.toList = showL [a, b] by rw [hoa, hob, ba_append, ba_append, show_two]; simp)
    have DA := hide (fun w => hoa ▸ Dec_any a _ rfl (by omega) w)
    have DB := hide (fun w => hob ▸ Dec_any b _ rfl (by omega) w)
    clear hla hlb hoa hob hd1
    go_wp2_with fail
    refine (DA.out _).mono ?_
    rintro e w1 ⟨rfl, hb1⟩
    go_wp2_with fail
    refine (DB.out _).mono ?_
    rintro e w2 ⟨rfl, hb2⟩
    have HB := hide ((below_drewN (Below.refl w.heap.size w) _).trans ((hb1.trans (hb2.mono hb1.size)).mono (Nat.le_refl _)))
    clear hb1 hb2
    go_wp2_with fail
    obtain ⟨o0, ho0⟩ : ∃ o0 : ByteArray, o0 = oa ++ ⟨#[46]⟩ ++ ob := ⟨_, rfl⟩
    rw [← ho0] at HO0 hbs4 ⊢
    clear ho0 hbs1 hbs2 hbs3
    have hsw2 := HB.out.size
    go_loopw [5, 6] (fun v i wr => ∃ (k : Nat) (o : ByteArray), 1 ≤ k ∧ k ≤ 8 ∧ o.size ≤ 11 * k + 30 ∧ v = .string o ∧ i = .int .i64 k ∧ Below w.heap.size w wr ∧ Hid (o.data.toList = showL (a :: b :: (((l.map Int.toNat).drop 1).take (k - 1)).map shiftA))) (fun _ i _ => 8 - (intOf i).toNat)
    case atStart => exact ⟨1, o0, by omega, by omega, by omega, rfl, rfl, HB.out, HO0⟩
    case round =>
      obtain ⟨k, o, hk1, hk8, hol, rfl, rfl, hb, HO⟩ := hrel
      by_cases hlt : k < l.length
      · by_cases hlt8 : k < 8
        · first
          | (exfalso; omega)
          | (obtain ⟨bk, off, xs, hA, hbS, hx, hcell⟩ := K.out.at_ hlt
             simp only [Option.some.injEq, Addr.mk.injEq, and_true] at hA
             obtain ⟨rfl, rfl⟩ := hA
             have hxs : xs = [.int .u32 l[k]] := hx
             subst hxs
             have hc0 := hcell 0 _ rfl
             obtain ⟨m, hm, hm2⟩ := HWF.out l[k] (List.getElem_mem hlt)
             rw [hm] at hc0
             simp only [Nat.mul_one, Nat.add_zero] at hc0
             have hbS' : bk < w.heap.size := hbS
             have hcw := (hb.cell hbS').trans hc0
             clear hcell hc0
             obtain ⟨wo, rfl⟩ : ∃ wo : World, wo = wr := ⟨_, rfl⟩
             have HTK := hide (show ((l.map Int.toNat).drop 1).take (k + 1 - 1) = ((l.map Int.toNat).drop 1).take (k - 1) ++ [m] by
               rw [show k + 1 - 1 = (k - 1) + 1 by omega, List.take_add_one]
               congr 1
               rw [List.getElem?_drop, show 1 + (k - 1) = k by omega, List.getElem?_map, List.getElem?_eq_getElem hlt, hm]
               rfl)
             have hi2 : (0 : Int) ≤ (k : Int) := by omega
             have hi1 : (k : Int) < (l.length : Int) := by omega
             clear hx hm
             obtain ⟨q, hq⟩ : ∃ q, m % 32 = q := ⟨_, rfl⟩
             obtain ⟨s1, hs1⟩ : ∃ s1, m / 2 ^ q = s1 := ⟨_, rfl⟩
             obtain ⟨t, ht⟩ : ∃ t, s1 % 2147483648 = t := ⟨_, rfl⟩
             have htm : (m : Int).tmod 32 = (q : Int) := by rw [Int.tmod_eq_emod_of_nonneg (by omega)]; omega
             have hs1l : s1 ≤ m := by rw [← hs1]; exact Nat.div_le_self _ _
             have hsh : Op.shift .shr .u32 (m : Int) .u32 (q : Int) = pure (.int .u32 (s1 : Int)) := by
               rw [shift_shr_any .u32 .u32 _ _ (by omega), ← hs1, Int.toNat_natCast, show min q IntKind.u32.bits = q from Nat.min_eq_left (show q ≤ 32 by omega), Int.natCast_ediv, Int.natCast_pow]; rfl
             have hwr : IntKind.i64.wrap (s1 : Int) = (s1 : Int) := IntWalk.i64_in _ (by omega)
             have hand : bits .and .i64 (s1 : Int) 2147483647 = (t : Int) := by rw [i64_and31 s1 (by omega), ht]
             have HT := hide (show shiftA m = t by unfold shiftA; rw [hq, hs1, ht])
             have hlt9 := decL_len 9 t (by omega)
             obtain ⟨ot, hot⟩ : ∃ ot : ByteArray, ot = (⟨(decL t).toArray⟩ : ByteArray) := ⟨_, rfl⟩
             have hot1 : ot.size ≤ 10 := by rw [hot]; exact hlt9
             have hd1 : (⟨#[46]⟩ : ByteArray).size = 1 := rfl
             have hot2 : ((⟨#[46]⟩ : ByteArray) ++ ot).size ≤ 11 := by rw [ba_size]; omega
             have hot3 : (o ++ ((⟨#[46]⟩ : ByteArray) ++ ot)).size ≤ 11 * (k + 1) + 30 := by rw [ba_size]; omega
             have HOT := hide (show (o ++ ((⟨#[46]⟩ : ByteArray) ++ ot)).data.toList = o.data.toList ++ 46 :: decL t by rw [ba_append, ba_append, hot]; rfl)
             have DC := hide (fun w => hot ▸ Dec_any t _ rfl (by omega) w)
             have hbs5 : ¬ 9223372036854775807 < 1 + ot.size := by omega
             have hbs6 : ¬ 9223372036854775807 < o.size + ((⟨#[46]⟩ : ByteArray) ++ ot).size := by omega
             have hbs7 : ¬ 9223372036854775807 < o.size + (1 + ot.size) := by omega
             clear hlt9 hot hq hs1 ht hd1
             go_wp2_with fail
             have HB0 := hide hb
             have hbb : Below wo.heap.size wo wo := Below.refl _ _
             go_region_held3 (fun W => Below wo.heap.size wo W ∧ W.cell? ⟨bk, off + k, none⟩ = some (.int .u32 (m : Int)))
               (first | exact ⟨hbb, hcw⟩ | exact ⟨hbb.drew, hcw⟩ | exact heldB hbb.drew hb9 hcw)
               ((go_at_call 24; refine (DC.out _).mono ?_; rintro e w9 ⟨rfl, hb9⟩))
             all_goals
               clear htm hsh hwr hand hbs5 hbs6 hbs7
               have HBN := hide (HB0.out.trans ((hbb.drew.trans hb9).mono HB0.out.size))
               have HSN := hide (show (o ++ ((⟨#[46]⟩ : ByteArray) ++ ot)).data.toList = showL (a :: b :: (((l.map Int.toNat).drop 1).take (k + 1 - 1)).map shiftA) by
                 rw [HOT.out, HO.out, HTK.out, List.map_append, List.map_cons, List.map_nil, HT.out, ← List.cons_append, ← List.cons_append, show_snoc (by simp)])
               obtain ⟨o9, ho9⟩ : ∃ o9, o9 = o ++ ((⟨#[46]⟩ : ByteArray) ++ ot) := ⟨_, rfl⟩
               rw [← ho9] at HSN hot3
               try rw [← ho9]
               clear hbb hb9 ho9 HOT
               go_wp2_with fail
               go_roundw
               case rel => exact ⟨k + 1, o9, by omega, by omega, by omega, rfl, by go_num, HBN.out, HSN⟩
               case measure => simp [intOf]; omega)
        · have HE := hide (show ((l.map Int.toNat).drop 1).take (k - 1) = ((l.map Int.toNat).drop 1).take 7 by rw [show k - 1 = 7 by omega])
          go_wp2_with fail
          all_goals
            go_ret
            exact ⟨ret_ba (by rw [HO.out, HE.out, HI.out]), hb⟩
      · have HE := hide (show ((l.map Int.toNat).drop 1).take (k - 1) = ((l.map Int.toNat).drop 1).take 7 by
          rw [List.take_of_length_le (by simp; omega), List.take_of_length_le (by simp; omega)])
        go_wp2_with fail
        go_ret
        exact ⟨ret_ba (by rw [HO.out, HE.out, HI.out]), hb⟩
  · have hl0 : l = [] := List.eq_nil_of_length_eq_zero (by omega)
    have ha' : a = 2 := by rw [← ha, hl0]; rfl
    have hb' : b = 999 := by rw [← hb, hl0]; rfl
    have hi0 : ¬ (0 : Int) < (l.length : Int) := by omega
    subst ha' hb'
    clear ha hb hl0
    go_enter Tryd.func14, Tryd.ntmps14
    have hla := decL_len 9 2 (by omega)
    have hlb := decL_len 9 999 (by omega)
    obtain ⟨oa, hoa⟩ : ∃ oa : ByteArray, oa = (⟨(decL 2).toArray⟩ : ByteArray) := ⟨_, rfl⟩
    obtain ⟨ob, hob⟩ : ∃ ob : ByteArray, ob = (⟨(decL 999).toArray⟩ : ByteArray) := ⟨_, rfl⟩
    have hbs1 : oa.size ≤ 10 := by rw [hoa]; exact hla
    have hbs2 : ob.size ≤ 10 := by rw [hob]; exact hlb
    have hd1 : (⟨#[46]⟩ : ByteArray).size = 1 := rfl
    have hbs3 : (oa ++ ⟨#[46]⟩).size ≤ 11 := by rw [ba_size]; omega
    have hbs4 : (oa ++ ⟨#[46]⟩ ++ ob).size ≤ 30 := by rw [ba_size]; omega
    have HO0 := hide (show (oa ++ ⟨#[46]⟩ ++ ob).data.toList = showL [2, 999] by rw [hoa, hob, ba_append, ba_append, show_two]; simp)
    have DA := hide (fun w => hoa ▸ Dec_any 2 _ rfl (by omega) w)
    have DB := hide (fun w => hob ▸ Dec_any 999 _ rfl (by omega) w)
    clear hla hlb hoa hob hd1
    go_wp2_with fail
    refine (DA.out _).mono ?_
    rintro e w1 ⟨rfl, hb1⟩
    go_wp2_with fail
    refine (DB.out _).mono ?_
    rintro e w2 ⟨rfl, hb2⟩
    have HB := hide ((Below.refl w.heap.size w).trans ((hb1.trans (hb2.mono hb1.size)).mono (Nat.le_refl _)))
    clear hb1 hb2
    go_wp2_with fail
    obtain ⟨o0, ho0⟩ : ∃ o0 : ByteArray, o0 = oa ++ ⟨#[46]⟩ ++ ob := ⟨_, rfl⟩
    rw [← ho0] at HO0 hbs4 ⊢
    clear ho0 hbs1 hbs2 hbs3
    have hsw2 := HB.out.size
    go_loopw [5, 6] (fun v i wr => ∃ (k : Nat) (o : ByteArray), 1 ≤ k ∧ k ≤ 8 ∧ o.size ≤ 11 * k + 30 ∧ v = .string o ∧ i = .int .i64 k ∧ Below w.heap.size w wr ∧ Hid (o.data.toList = showL (2 :: 999 :: (((l.map Int.toNat).drop 1).take (k - 1)).map shiftA))) (fun _ i _ => 8 - (intOf i).toNat)
    case atStart => exact ⟨1, o0, by omega, by omega, by omega, rfl, rfl, HB.out, HO0⟩
    case round =>
      obtain ⟨k, o, hk1, hk8, hol, rfl, rfl, hb, HO⟩ := hrel
      by_cases hlt : k < l.length
      · by_cases hlt8 : k < 8
        · first
          | (exfalso; omega)
          | (obtain ⟨bk, off, xs, hA, hbS, hx, hcell⟩ := K.out.at_ hlt
             simp only [Option.some.injEq, Addr.mk.injEq, and_true] at hA
             obtain ⟨rfl, rfl⟩ := hA
             have hxs : xs = [.int .u32 l[k]] := hx
             subst hxs
             have hc0 := hcell 0 _ rfl
             obtain ⟨m, hm, hm2⟩ := HWF.out l[k] (List.getElem_mem hlt)
             rw [hm] at hc0
             simp only [Nat.mul_one, Nat.add_zero] at hc0
             have hbS' : bk < w.heap.size := hbS
             have hcw := (hb.cell hbS').trans hc0
             clear hcell hc0
             obtain ⟨wo, rfl⟩ : ∃ wo : World, wo = wr := ⟨_, rfl⟩
             have HTK := hide (show ((l.map Int.toNat).drop 1).take (k + 1 - 1) = ((l.map Int.toNat).drop 1).take (k - 1) ++ [m] by
               rw [show k + 1 - 1 = (k - 1) + 1 by omega, List.take_add_one]
               congr 1
               rw [List.getElem?_drop, show 1 + (k - 1) = k by omega, List.getElem?_map, List.getElem?_eq_getElem hlt, hm]
               rfl)
             have hi2 : (0 : Int) ≤ (k : Int) := by omega
             have hi1 : (k : Int) < (l.length : Int) := by omega
             clear hx hm
             obtain ⟨q, hq⟩ : ∃ q, m % 32 = q := ⟨_, rfl⟩
             obtain ⟨s1, hs1⟩ : ∃ s1, m / 2 ^ q = s1 := ⟨_, rfl⟩
             obtain ⟨t, ht⟩ : ∃ t, s1 % 2147483648 = t := ⟨_, rfl⟩
             have htm : (m : Int).tmod 32 = (q : Int) := by rw [Int.tmod_eq_emod_of_nonneg (by omega)]; omega
             have hs1l : s1 ≤ m := by rw [← hs1]; exact Nat.div_le_self _ _
             have hsh : Op.shift .shr .u32 (m : Int) .u32 (q : Int) = pure (.int .u32 (s1 : Int)) := by
               rw [shift_shr_any .u32 .u32 _ _ (by omega), ← hs1, Int.toNat_natCast, show min q IntKind.u32.bits = q from Nat.min_eq_left (show q ≤ 32 by omega), Int.natCast_ediv, Int.natCast_pow]; rfl
             have hwr : IntKind.i64.wrap (s1 : Int) = (s1 : Int) := IntWalk.i64_in _ (by omega)
             have hand : bits .and .i64 (s1 : Int) 2147483647 = (t : Int) := by rw [i64_and31 s1 (by omega), ht]
             have HT := hide (show shiftA m = t by unfold shiftA; rw [hq, hs1, ht])
             have hlt9 := decL_len 9 t (by omega)
             obtain ⟨ot, hot⟩ : ∃ ot : ByteArray, ot = (⟨(decL t).toArray⟩ : ByteArray) := ⟨_, rfl⟩
             have hot1 : ot.size ≤ 10 := by rw [hot]; exact hlt9
             have hd1 : (⟨#[46]⟩ : ByteArray).size = 1 := rfl
             have hot2 : ((⟨#[46]⟩ : ByteArray) ++ ot).size ≤ 11 := by rw [ba_size]; omega
             have hot3 : (o ++ ((⟨#[46]⟩ : ByteArray) ++ ot)).size ≤ 11 * (k + 1) + 30 := by rw [ba_size]; omega
             have HOT := hide (show (o ++ ((⟨#[46]⟩ : ByteArray) ++ ot)).data.toList = o.data.toList ++ 46 :: decL t by rw [ba_append, ba_append, hot]; rfl)
             have DC := hide (fun w => hot ▸ Dec_any t _ rfl (by omega) w)
             have hbs5 : ¬ 9223372036854775807 < 1 + ot.size := by omega
             have hbs6 : ¬ 9223372036854775807 < o.size + ((⟨#[46]⟩ : ByteArray) ++ ot).size := by omega
             have hbs7 : ¬ 9223372036854775807 < o.size + (1 + ot.size) := by omega
             clear hlt9 hot hq hs1 ht hd1
             go_wp2_with fail
             have HB0 := hide hb
             have hbb : Below wo.heap.size wo wo := Below.refl _ _
             go_region_held3 (fun W => Below wo.heap.size wo W ∧ W.cell? ⟨bk, off + k, none⟩ = some (.int .u32 (m : Int)))
               (first | exact ⟨hbb, hcw⟩ | exact ⟨hbb.drew, hcw⟩ | exact heldB hbb.drew hb9 hcw)
               ((go_at_call 24; refine (DC.out _).mono ?_; rintro e w9 ⟨rfl, hb9⟩))
             all_goals
               clear htm hsh hwr hand hbs5 hbs6 hbs7
               have HBN := hide (HB0.out.trans ((hbb.drew.trans hb9).mono HB0.out.size))
               have HSN := hide (show (o ++ ((⟨#[46]⟩ : ByteArray) ++ ot)).data.toList = showL (2 :: 999 :: (((l.map Int.toNat).drop 1).take (k + 1 - 1)).map shiftA) by
                 rw [HOT.out, HO.out, HTK.out, List.map_append, List.map_cons, List.map_nil, HT.out, ← List.cons_append, ← List.cons_append, show_snoc (by simp)])
               obtain ⟨o9, ho9⟩ : ∃ o9, o9 = o ++ ((⟨#[46]⟩ : ByteArray) ++ ot) := ⟨_, rfl⟩
               rw [← ho9] at HSN hot3
               try rw [← ho9]
               clear hbb hb9 ho9 HOT
               go_wp2_with fail
               go_roundw
               case rel => exact ⟨k + 1, o9, by omega, by omega, by omega, rfl, by go_num, HBN.out, HSN⟩
               case measure => simp [intOf]; omega)
        · have HE := hide (show ((l.map Int.toNat).drop 1).take (k - 1) = ((l.map Int.toNat).drop 1).take 7 by rw [show k - 1 = 7 by omega])
          go_wp2_with fail
          all_goals
            go_ret
            exact ⟨ret_ba (by rw [HO.out, HE.out, HI.out]), hb⟩
      · have HE := hide (show ((l.map Int.toNat).drop 1).take (k - 1) = ((l.map Int.toNat).drop 1).take 7 by
          rw [List.take_of_length_le (by simp; omega), List.take_of_length_le (by simp; omega)])
        go_wp2_with fail
        go_ret
        exact ⟨ret_ba (by rw [HO.out, HE.out, HI.out]), hb⟩
end Go.Proofs.YtbhcjohkbaaeiaaDoor
