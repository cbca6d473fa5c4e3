/- The functions of package oid: Decode. -/
import Derived.Test.YtmgnihmjjijdoaaDoorKGOidL
import Derived.Test.YtmgnihmjjijdoaaDoorKGSplit
import Derived.Test.YtmgnihmjjijdoaaDoorKGTlvA
import Derived.Deep.RegionLaw
import Derived.Lib.LaidTab
import Derived.LaidSub
import Derived.MakeChecks
namespace Go.Proofs.YtmgnihmjjijdoaaDoor
open Go.RowKit
def Tb (w : World) : Prop := Lib.TabIs Tryd.prog w "internal/strconv.uint64pow10" .u64 Lib.pow10Tab
theorem info_str : (Tryd.prog.info? 9).map (fun i => (i.zero, i.size, i.bytes)) = some (some (.string ⟨#[]⟩), 1, 16) := by kernel_rfl
theorem beq0_t {n : Nat} (h : n = 0) : ((n : Int) == 0) = true := by subst h; rfl
theorem beq0_f {n : Nat} (h : n ≠ 0) : ((n : Int) == 0) = false := by rw [beq_eq_false_iff_ne]; omega
theorem Tb.below {w w' : World} (h : Tb w) (hb : Below w.heap.size w w') : Tb w' := by
 unfold Tb Lib.TabIs World.var? at *
 obtain ⟨g, hg, h1⟩ := Option.bind_eq_some_iff.1 h
 rw [hg, Option.bind_some]
 have hlt : g < w.heap.size := by
  rcases Nat.lt_or_ge g w.heap.size with h2 | h2
  ·exact h2
  ·rw [Array.getElem?_eq_none h2] at h1; cases h1
 rw [hb.block g hlt]
 exact h1
theorem Itoa_nat (n : Nat) (hn : n ≤ 4294967295) (w : World) (htb : Tb w) :
  Calls Tryd.prog 63 #[.int .i64 (n : Int)] w fun e w' => e = .returned (.string ⟨(decL n).toArray⟩) ∧ Below w.heap.size w w' :=
 (Tryd.strconv_Itoa (n : Int) (by omega) (by omega) w htb).mono fun e w' ⟨he, k, os, hw⟩ => by
  refine ⟨?_, by rw [hw]; exact ⟨rfl, rfl, rfl, by show w.heap.size ≤ (w.heap ++ os).size; rw [Array.size_append]; omega, fun j hj => by show (w.heap ++ os)[j]? = w.heap[j]?; exact Array.getElem?_append_left hj⟩⟩
  rw [he, Lib.itoa, if_neg (by omega), Int.toNat_natCast, decL_dig]
theorem join_C (c : UInt8) : ∀ ps : List (List UInt8), Lib.join ps [c] = joinC c ps
  | [] => rfl
  | [p] => by simp [Lib.join, List.intercalate, joinC]
  | p :: q :: r => by
    have ih := join_C c (q :: r)
    rw [joinC_cons c p (by simp), ← ih]
    simp [Lib.join, List.intercalate]
theorem Join_any (v : Value) (out : List (List UInt8)) (base : Nat) (w : World) (hown : Own RStr 1 9 w base No v out) (h0 : 0 < out.length) (hN : out.length ≤ 1000000) (hlen : (joinC 46 out).length ≤ 140737488355328) :
  Calls Tryd.prog 34 #[v, .string ⟨#[46]⟩] w fun e w' => e = .returned (.string ⟨(joinC 46 out).toArray⟩) ∧ Below w.heap.size w w' := by
 obtain ⟨g, cap, ys, hv, hb, hg, hc, hm, hr, hh, _⟩ := hown.at_ h0
 subst hv
 have hmap : (out.map fun (x : List UInt8) => (⟨x.toArray⟩ : ByteArray)).map (·.data.toList) = out := by
  rw [List.map_map]
  exact (List.map_congr_left (fun x _ => rfl)).trans (List.map_id _)
 have hl : (out.map fun (x : List UInt8) => (⟨x.toArray⟩ : ByteArray)).length = out.length := List.length_map _
 have hj : Lib.join ((out.map fun (x : List UInt8) => (⟨x.toArray⟩ : ByteArray)).map (·.data.toList)) (⟨#[46]⟩ : ByteArray).data.toList = joinC 46 out := by
  rw [hmap]; exact join_C 46 out
 have := Tryd.strings_Join g 0 cap (out.map fun (x : List UInt8) => (⟨x.toArray⟩ : ByteArray)) ⟨#[46]⟩ w (fun j x hx => by
  rw [List.getElem?_map] at hx
  obtain ⟨y, hy, rfl⟩ := Option.map_eq_some_iff.1 hx
  obtain ⟨hi, rfl⟩ := List.getElem?_eq_some_iff.1 hy
  obtain ⟨g', cap', zs, hv', _, _, _, _, hr', hh', _⟩ := hown.at_ hi
  cases hv'
  have e : zs = strC out[j] := hr'
  subst e
  simpa using hh' 0 _ rfl) hg (by rw [hl]; omega) (by rw [hl]; exact hc) (by rw [hj]; exact hlen)
 rw [hl] at this
 refine this.mono fun e w' ⟨he, hw⟩ => ⟨?_, hw⟩
 rw [he, hj]
theorem Own.lits {α : Type} {f : α → Value} {e : TypeId} {w : World} {base : Nat} (hbase : base ≤ w.heap.size) (l : List α) (C : Array Value) (hC : C.toList = l.map f) (n : Nat) (hn : n = l.length) (hm : n ≤ maxLen) :
  Own (Pu fun x => [f x]) 1 e (w.alloc (.cells C e)) base No (.slice (some ⟨w.heap.size, 0, none⟩) n n) l := by
 subst hn
 have hs : C.size = l.length := by rw [← Array.length_toList, hC, List.length_map]
 refine ⟨l.map f, ⟨by simp, .inr ⟨w.heap.size, l.length, C, rfl, hbase, heap_alloc_new w _, Nat.le_refl _, hm, by simpa using hs, ?_⟩⟩, fun g _ hg => hg.elim, fun i x hx => ⟨[f x], rfl, fun j u hu => ?_⟩⟩
 ·rw [hC, List.take_of_length_le (by simp)]
 ·have hj : j = 0 := by have := (List.getElem?_eq_some_iff.1 hu).1; simp at this; exact this
  subst hj
  simp at hu; subst hu
  rw [Nat.mul_one, Nat.add_zero, List.getElem?_map, hx]; rfl
theorem Own.litNat2 {e : TypeId} {w : World} {base : Nat} (hbase : base ≤ w.heap.size) (a b : Nat) : Own RNat 1 e (w.alloc (.cells #[.int .i64 (a : Int), .int .i64 (b : Int)] e)) base No (.slice (some ⟨w.heap.size, 0, none⟩) 2 2) [a, b] :=
 Own.lits (f := fun n : Nat => Value.int .i64 (n : Int)) hbase [a, b] _ rfl 2 rfl (by simp [maxLen])
theorem news_str (w : World) (S : Nat → Prop) (C : Array Value) (t : TypeId) (l : List (List UInt8)) (hC : C.toList = l.map fun (x : List UInt8) => Value.string ⟨x.toArray⟩) :
  ∀ i y, l[i]? = some y → ∃ cs, RStr (w.alloc (.cells C t)) S y cs ∧ ∀ j u, cs[j]? = some u → (w.alloc (.cells C t)).cell? ((⟨w.heap.size, 0, none⟩ : Addr).add (i * 1 + j)) = some u :=
 news_pu (f := strC) (size := 1) (fun _ => rfl) w S C t l (by
  rw [hC]
  clear hC
  induction l with
  | nil => rfl
  | cons x l ih => rw [List.map_cons, List.flatMap_cons, ih]; rfl)
theorem nats_src {w : World} {b off m c k : Nat} {l : List Nat} (h : ∀ i (hi : i < l.length), w.cell? ⟨b, off + i, none⟩ = some (.int .i64 (l[i] : Int))) (hb : b < w.heap.size)
  (hc : l.length ≤ c) (hm : m = l.length - k) :
  ∃ A2 : Addr, (if c = k then some (⟨b, off, none⟩ : Addr) else some ⟨b, off + k, none⟩) = some A2 ∧ m = (l.drop k).length ∧ ∀ W, Below w.heap.size w W → ∀ i y, (l.drop k)[i]? = some y → ∃ cs, RNat W No y cs ∧ ∀ j u, cs[j]? = some u → W.cell? (A2.add (i * 1 + j)) = some u := by
 have hml : m = (l.drop k).length := by rw [List.length_drop]; exact hm
 by_cases hck : c = k
 ·refine ⟨_, if_pos hck, hml, fun W _ i y hy => ?_⟩
  have := (List.getElem?_eq_some_iff.1 hy).1
  rw [List.length_drop] at this
  omega
 ·refine ⟨_, if_neg hck, hml, fun W hW i y hy => ⟨_, rfl, fun j u hu => ?_⟩⟩
  rw [List.getElem?_drop] at hy
  obtain ⟨hi, rfl⟩ := List.getElem?_eq_some_iff.1 hy
  have hj : j = 0 := by have := (List.getElem?_eq_some_iff.1 hu).1; simp [natC] at this; exact this
  subst hj
  simp [natC] at hu; subst hu
  rw [Nat.mul_one, Nat.add_zero, Addr.add_lit, Nat.add_assoc]
  exact (hW.cell hb).trans (h _ hi)
theorem showL_le : ∀ L : List Nat, (∀ n ∈ L, n ≤ 4294967295) → (showL L).length ≤ 11 * L.length
  | [], _ => by simp [showL, joinC]
  | [n], h => by
    have := decL_len 9 n (by have := h n (by simp); omega)
    show (decL n).length ≤ 11 * 1
    omega
  | n :: m :: r, h => by
    have ih := showL_le (m :: r) (fun x hx => h x (by simp [List.mem_cons.1 hx]))
    have := decL_len 9 n (by have := h n (by simp); omega)
    show (decL n ++ 46 :: showL (m :: r)).length ≤ _
    rw [List.length_append, List.length_cons]
    simp only [List.length_cons] at ih ⊢
    omega
set_option maxRecDepth 100000 in
set_option maxHeartbeats 4000000 in
theorem Decode_any (s : ByteArray) (hs : s.size ≤ 1000000) (w : World) (htb : Tb w) :
  Calls Tryd.prog 53 #[.string s] w fun e w' => e = .returned (encR (decP s.data.toList)) ∧ Below w.heap.size w w' := by
 have HTB := hide htb
 obtain ⟨r, hr⟩ : ∃ r, decP s.data.toList = r := ⟨_, rfl⟩
 rw [hr]
 obtain ⟨L, hL⟩ : ∃ L, numP s.data.toList = L := ⟨_, rfl⟩
 have HR := hide (show r = if L.length = 0 ∨ 11 < L.length then none else if ∀ n ∈ expandL L, n ≤ 2147483647 then some (showL (expandL L)) else none by rw [← hr, decP, hL])
 have HBD := hide (show ∀ n ∈ L, n ≤ 4294967294 from fun n hn => by
  rw [← hL, numP] at hn
  cases hk : numK false 0 s.data.toList with
  | none => rw [hk] at hn; cases hn
  | some l => rw [hk] at hn; exact numK_bd _ _ _ l hk n hn)
 have HLL := hide hL
 clear hr hL htb
 go_enter Tryd.func53, Tryd.ntmps53
 go_wp2_with fail
 refine (numbers_any s hs _).mono ?_
 rintro e w1 ⟨v, rfl, hsl, hb1⟩
 rw [HLL.out] at hsl
 obtain ⟨A, c, hv⟩ := hsl.shape
 subst hv
 obtain ⟨-, hlc, -⟩ := hsl.len_
 have HSL := hide hsl
 have HB1 := hide hb1
 clear hsl hb1
 by_cases h0 : L.length = 0
 ·have HN := hide (show r = none by rw [HR.out, if_pos (.inl h0)])
  have ht := beq0_t h0
  clear h0
  go_wp2_with fail
  go_ret2
  exact ⟨ret_encN HN.out, HB1.out⟩
 ·have ht := beq0_f h0
  by_cases h11 : 11 < L.length
  ·have HN := hide (show r = none by rw [HR.out, if_pos (.inr h11)])
   clear h0
   go_wp2_with fail
   go_ret2
   exact ⟨ret_encN HN.out, HB1.out⟩
  ·have HR2 := hide (show r = if ∀ n ∈ expandL L, n ≤ 2147483647 then some (showL (expandL L)) else none by rw [HR.out, if_neg (by omega)])
   obtain ⟨b, off, hA, hbS, hc0⟩ := HSL.out.natAt (i := 0) (by omega)
   subst hA
   have hbl : b < w1.heap.size := hbS
   have hcells : ∀ i (hi : i < L.length), w1.cell? ⟨b, off + i, none⟩ = some (.int .i64 (L[i] : Int)) := fun i hi => by
    obtain ⟨b', off', hA', _, hc'⟩ := HSL.out.natAt hi
    cases hA'
    exact hc'
   obtain ⟨A2, hA2, hml, hsrc⟩ := nats_src (k := 1) (c := c) (m := L.length - 1) hcells hbl hlc rfl
   obtain ⟨v0, hv0⟩ : ∃ v0, L[0]'(by omega) = v0 := ⟨_, rfl⟩
   rw [hv0] at hc0
   rw [Nat.add_zero] at hc0
   have hv0b : v0 ≤ 4294967294 := by rw [← hv0]; exact HBD.out _ (List.getElem_mem _)
   obtain ⟨R, hRR⟩ : ∃ R, L.drop 1 = R := ⟨_, rfl⟩
   have hLR : L = v0 :: R := by rw [← hRR, ← hv0, ← List.drop_eq_getElem_cons (show 0 < L.length by omega), List.drop_zero]
   rw [hRR] at hml hsrc
   obtain ⟨f, hf⟩ : ∃ f, firstA v0 = f := ⟨_, rfl⟩
   have hf' : f = min (v0 / 40) 2 := hf.symm
   obtain ⟨g, hg⟩ : ∃ g, v0 - 40 * f = g := ⟨_, rfl⟩
   have HX := hide (show expandL L = [f, g] ++ R by rw [hLR, expandL, hf, hg]; rfl)
   have HRB := hide (show ∀ n ∈ R, n ≤ 4294967294 from fun n hn => HBD.out n (by rw [hLR]; simp [hn]))
   have hmin : min ((v0 : Int) / 40) 2 = (f : Int) := by omega
   have hw1 : IntKind.i64.wrap (40 * (f : Int)) = 40 * (f : Int) := IntWalk.i64_in _ (by omega)
   have hw2 : IntKind.i64.wrap ((v0 : Int) - 40 * (f : Int)) = (g : Int) := by rw [IntWalk.i64_in _ (by omega)]; omega
   have hgb : f ≤ 4294967294 ∧ g ≤ 4294967294 := by omega
   have hi0 : (0 : Int) < (L.length : Int) := by omega
   have hix0 : (0 : Nat) < L.length := by omega
   have hI1 : (1 : Int) ≤ (L.length : Int) := by omega
   have HGB := hide hgb
   have HML := hide hml
   have hRl : R.length ≤ 10 := by omega
   have HSRC := hide hsrc
   clear hcells hsrc hLR hv0 hf hf' hg hml hgb hRR
   go_wp2_with fail
   go_region_law (refine step_app RNat.ok _ ?_ (.tmp 32) (.tmp 34) 24 ?_ w1.heap.size 3 (.int .i64 0) 8 Tryd.underlying24 info_int rfl (by decide) No (.slice (some ⟨w1.heap.size, 0, none⟩) 2 2) [f, g] ?_ ?_ A2 (L.length - 1) (c - 1) R ?_ HML.out ?_ (no_lt _) ?_ ?_ ?_ ?_; rfl; rfl; rfl; exact (Own.litNat2 (Nat.le_refl _) f g).drew RNat.ok; rfl; exact HSRC.out _ (((Below.refl _ _).alloc (Nat.le_refl _) _).drew); (simp; omega); (simp [maxLen]; omega); simp; intro v4 w4 hown4 hg4 hb4 hat4; have hsz4 := hb4.size; simp at hsz4)
   all_goals
    clear hw1 hw2 hi0 hix0 hI1 hA2 hmin
    have HB4 := hide (HB1.out.trans ((((Below.refl w1.heap.size w1).alloc (Nat.le_refl _) _).drew.trans (hb4.mono (by simp))).mono HB1.out.size))
    rw [← HX.out] at hown4
    obtain ⟨E, hE⟩ : ∃ E, expandL L = E := ⟨_, rfl⟩
    rw [hE] at hown4
    have HR3 := hide (show r = if ∀ n ∈ E, n ≤ 2147483647 then some (showL E) else none by rw [HR2.out, hE])
    have HEB := hide (show ∀ n ∈ E, n ≤ 4294967294 from fun n hn => by
     rw [← hE, HX.out] at hn
     rcases List.mem_append.1 hn with hn | hn
     ·simp only [List.mem_cons, List.not_mem_nil, or_false] at hn
      rcases hn with rfl | rfl
      ·exact HGB.out.1
      ·exact HGB.out.2
     ·exact HRB.out n hn)
    have hEl : E.length = R.length + 2 := by rw [← hE, HX.out]; simp
    obtain ⟨g4, c4, hv4, hbg4, hgl4, hgc4, hgm4, hnat4⟩ := hown4.nats (by omega)
    subst hv4
    have HN4 := hide hnat4
    obtain ⟨bout, hbout⟩ : ∃ bout, bout = w4.heap.size := ⟨_, rfl⟩
    have hgl4' : g4 < bout := by omega
    have HBO := hide hbout
    have HT4 := hide (HTB.out.below HB4.out)
    clear hown4 hg4 hb4 hat4 hsz4 hnat4 hgm4 hbout hbg4 hgl4 hE
    go_wp2_with fail
    go_loopw [7, 38] (fun v i wr => ∃ (k : Nat) (out : List (List UInt8)), k ≤ E.length ∧ i = .int .i64 k ∧ Own RStr 1 9 wr bout No v out ∧ Below bout w4 wr ∧ bout ≤ wr.heap.size ∧ out.length = k ∧ Hid (out = (E.take k).map decL ∧ ∀ n ∈ E.take k, n ≤ 2147483647)) (fun _ i _ => E.length - (intOf i).toNat)
    case atStart => exact ⟨0, [], by omega, rfl, Own.nil _ _ _ _ _ _, Below.refl _ _, by rw [HBO.out]; exact Nat.le_refl _, rfl, hide ⟨rfl, fun n hn => by cases hn⟩⟩
    case round =>
     obtain ⟨k, out, hk, rfl, hown, hb, hgs, hol, HO⟩ := hrel
     have hbw : Below w4.heap.size w4 wr := HBO.out ▸ hb
     have HTr := hide (HT4.out.below hbw)
     have HBr := hide (HB4.out.trans (hbw.mono HB4.out.size))
     have hol2 : out.length ≤ k := by omega
     have HOL := hide hol
     clear hbw hol
     by_cases hlt : k < E.length
     ·have hcell : wr.cell? ⟨g4, k, none⟩ = some (.int .i64 (E[k] : Int)) := (hb.cell hgl4').trans (HN4.out k hlt)
      have hxb := HEB.out E[k] (List.getElem_mem hlt)
      have HTK := hide (List.take_succ_eq_append_getElem hlt)
      obtain ⟨x, hx⟩ : ∃ x, E[k] = x := ⟨_, rfl⟩
      have HXM := hide (show x ∈ E from hx ▸ List.getElem_mem hlt)
      rw [hx] at hcell hxb HTK
      clear hx
      by_cases hbig : 2147483647 < x
      ·have HN := hide (show r = none by rw [HR3.out, if_neg (fun h => by have := h x HXM.out; omega)])
       go_wp2_with fail
       go_ret2
       exact ⟨ret_encN HN.out, HBr.out⟩
      ·obtain ⟨A5, c5, hv5⟩ := (hown.sl RStr.ok).shape
       subst hv5
       go_wp2_with fail
       refine (Itoa_nat x (by omega) _ HTr.out).mono ?_
       rintro e w5 ⟨rfl, hb5⟩
       have hown5 := hown.below RStr.ok (no_lt _) hb5
       have hgs5 : bout ≤ w5.heap.size := by have := hb5.size; omega
       have HB5 := hide (hb.trans (hb5.mono hgs))
       clear hb5 hcell hown
       go_wp2_with (at_builtin; refine wpList_app RStr.ok _ rfl (.tmp 44) (.tmp 47) 64 rfl bout 9 (.string ⟨#[]⟩) 16 Tryd.underlying64 info_str rfl (by decide) No _ out rfl (hown5.alloc RStr.ok (no_lt _) _) ⟨_, 0, none⟩ 1 1 [decL x] rfl rfl (news_str _ _ _ _ [decL x] rfl) (no_lt _) (by simp; omega) (by simp [maxLen]; omega) (by simp; omega) ?_; intro v6 w6 hown6 hg6 hb6 hat6; have hsz6 := hb6.size; simp at hsz6)
       go_roundw
       case rel => exact ⟨k + 1, out ++ [decL x], by omega, by go_num, hown6, HB5.out.trans ((below_alloc (Below.refl _ _) hgs5 _).trans hb6), by omega, by simp [HOL.out], hide ⟨by rw [HTK.out, List.map_append, ← HO.out.1]; rfl, fun n hn => by
        rw [HTK.out] at hn
        rcases List.mem_append.1 hn with hn | hn
        ·exact HO.out.2 n hn
        ·simp at hn; omega⟩⟩
       case measure => simp [intOf]; omega
     ·have HO2 := hide (show out = E.map decL ∧ ∀ n ∈ E, n ≤ 2147483647 by have := HO.out; rwa [List.take_of_length_le (by omega)] at this)
      have HS := hide (show r = some (joinC 46 out) by rw [HR3.out, if_pos HO2.out.2, HO2.out.1]; rfl)
      have hjl : (joinC 46 out).length ≤ 11 * E.length := by
       rw [HO2.out.1]
       exact showL_le E (fun n hn => by have := HO2.out.2 n hn; omega)
      go_wp2_with fail
      refine (Join_any _ out bout _ hown (by have := HOL.out; omega) (by omega) (by omega)).mono ?_
      rintro e w5 ⟨rfl, hb5⟩
      go_wp2_with fail
      go_ret2
      exact ⟨ret_encS HS.out, HBr.out.trans (hb5.mono HBr.out.size)⟩
end Go.Proofs.YtmgnihmjjijdoaaDoor
namespace Go.Proofs.YtmgnihmjjijdoaaDoor
open Go.RowKit
end Go.Proofs.YtmgnihmjjijdoaaDoor
namespace Go.Proofs.YtmgnihmjjijdoaaDoor
open Go.RowKit
theorem gTb : Tryd.prog.globalNamed "internal/strconv.uint64pow10" = some 1 := by kernel_rfl
theorem gTbType : (Tryd.prog.globals[1]?).map (·.type) = some 120 := by kernel_rfl
theorem cellsU64 : Tryd.prog.cellsOf 101 = 1 := by kernel_rfl
theorem cellsTb : Tryd.prog.cellsOf 120 = 20 := by kernel_rfl
def isTb (x : String × DataW Unit) : Bool := x.1 == "internal/strconv.uint64pow10"
theorem tb_of {W : World} {L : List (String × DataW Unit)} (h : laidMetH Tryd.prog L W) (hn : (L.all fun x => x.2.handleName?.isNone) = true) (hf : L.filter isTb = [("internal/strconv.uint64pow10", Lib.tabData .u64 Lib.pow10Tab)]) : Tb W := by
 rw [Go.MakeChecks.laidMetH_plain _ _ _ hn] at h
 have h2 := laidMet.filter isTb h
 rw [hf] at h2
 exact Lib.tabIs_of_head (rest := []) gTb gTbType Tryd.underlying120 Tryd.underlying101 cellsU64 cellsTb h2
end Go.Proofs.YtmgnihmjjijdoaaDoor
