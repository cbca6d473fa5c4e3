/- Elements: what Wrap writes, and its walk. -/
import Derived.Test.YtmgnihmjjijdoaaDoorKGTlvP
import Derived.Test.YtmgnihmjjijdoaaDoorKGSplit
import Derived.Deep.RegionLaw
import Derived.Lib.Join
import Derived.Test.YtmgnihmjjijdoaaDoorKGOidD
import Derived.Test.YtmgnihmjjijdoaaDoorKGOidL
namespace Go.Proofs.YtmgnihmjjijdoaaDoor
open Go.RowKit
def wrapR (r : List UInt8 × Int) : Value := .tuple #[.string ⟨r.1.toArray⟩, .int .i64 r.2]
theorem join_flat : ∀ xs : List (List UInt8), Lib.join xs [] = xs.flatten
  | [] => rfl
  | [p] => by simp [Lib.join, List.intercalate]
  | p :: q :: r => by
    have ih := join_flat (q :: r)
    rw [List.flatten_cons, ← ih]
    simp [Lib.join, List.intercalate]
theorem Join_flat (A : Option Addr) (xs : List (List UInt8)) (c : Nat) (w : World) (S : Nat → Prop) (hS : ∀ k, S k → k < w.heap.size) (h : Sl RStr 1 w S xs [.slice A xs.length c]) (hN : xs.length ≤ 1000000) (hlen : xs.flatten.length ≤ 140737488355328) :
  Calls Tryd.prog 34 #[.slice A xs.length c, .string ⟨#[]⟩] w fun e w' => e = .returned (.string ⟨xs.flatten.toArray⟩) ∧ Below w.heap.size w w' := by
 rcases Nat.eq_zero_or_pos xs.length with h0 | h0
 ·obtain rfl := List.eq_nil_of_length_eq_zero h0
  exact (Tryd.strings_Join_none A c ⟨#[]⟩ w).mono fun e w' ⟨he, hw⟩ => ⟨he, hw ▸ Below.refl _ _⟩
 ·obtain ⟨bk, o, _, hA, hb, _, _⟩ := h.at_ h0
  subst hA
  obtain ⟨-, hc, hm⟩ := h.len_
  have hmap : (xs.map fun (x : List UInt8) => (⟨x.toArray⟩ : ByteArray)).map (·.data.toList) = xs := by
   rw [List.map_map]
   exact (List.map_congr_left (fun x _ => rfl)).trans (List.map_id _)
  have hl : (xs.map fun (x : List UInt8) => (⟨x.toArray⟩ : ByteArray)).length = xs.length := List.length_map _
  have hj : Lib.join ((xs.map fun (x : List UInt8) => (⟨x.toArray⟩ : ByteArray)).map (·.data.toList)) (⟨#[]⟩ : ByteArray).data.toList = xs.flatten := by
   rw [hmap]; exact join_flat xs
  have := Tryd.strings_Join bk o c (xs.map fun (x : List UInt8) => (⟨x.toArray⟩ : ByteArray)) ⟨#[]⟩ w (fun j x hx => by
   rw [List.getElem?_map] at hx
   obtain ⟨y, hy, rfl⟩ := Option.map_eq_some_iff.1 hx
   obtain ⟨hi, rfl⟩ := List.getElem?_eq_some_iff.1 hy
   obtain ⟨b', o', zs, hv', _, hr', hh'⟩ := h.at_ hi
   cases hv'
   have e : zs = strC xs[j] := hr'
   subst e
   simpa using hh' 0 _ rfl) (hS _ hb) (by rw [hl]; omega) (by rw [hl]; exact hc) (by rw [hj]; exact hlen)
  rw [hl] at this
  refine this.mono fun e w' ⟨he, hw⟩ => ⟨?_, hw⟩
  rw [he, hj]
theorem u8_of (n : Nat) : IntKind.u8.wrap (n : Int) = ((UInt8.ofNat n).toNat : Int) := by
 rw [IntKind.wrap_u8', UInt8.toNat_ofNat']; omega
theorem flat_take_le (xs : List (List UInt8)) (k : Nat) : (xs.take k).flatten.length ≤ xs.flatten.length := by
 have := congrArg (fun l => (List.flatten l).length) (List.take_append_drop k xs)
 simp only [List.flatten_append, List.length_append] at this
 omega
theorem flat_take_succ (xs : List (List UInt8)) (k : Nat) (hk : k < xs.length) : (xs.take (k + 1)).flatten.length = (xs.take k).flatten.length + xs[k].length := by
 rw [List.take_succ_eq_append_getElem hk, List.flatten_append, List.length_append]; simp
theorem Sl.strAt {w : World} {S : Nat → Prop} {A : Option Addr} {n c : Nat} {l : List (List UInt8)} (h : Sl RStr 1 w S l [.slice A n c]) {i : Nat} (hi : i < l.length) :
  ∃ b off, A = some ⟨b, off, none⟩ ∧ S b ∧ w.cell? ⟨b, off + i, none⟩ = some (.string ⟨l[i].toArray⟩) := by
 obtain ⟨b, off, xs, hA, hb, hr, hc⟩ := h.at_ hi
 have e : xs = strC l[i] := hr
 subst e
 exact ⟨b, off, hA, hb, by simpa using hc 0 _ rfl⟩
theorem info_u8t : (Tryd.prog.info? 5).map (fun i => (i.zero, i.size, i.bytes)) = some (some (.int .u8 0), 1, 1) := by kernel_rfl
theorem own_head {e : TypeId} {w : World} {base : Nat} (hbase : base ≤ w.heap.size) (k : UInt8) : Own RByte 1 e (w.alloc (.cells #[.int .u8 (k.toNat : Int)] e)) base No (.slice (some ⟨w.heap.size, 0, none⟩) 1 1) [k] := by
  refine ⟨[.int .u8 (k.toNat : Int)], ⟨rfl, .inr ⟨w.heap.size, 1, #[.int .u8 (k.toNat : Int)], rfl, hbase, heap_alloc_new w _, Nat.le_refl _, by simp [maxLen], rfl, rfl⟩⟩, fun g _ hg => hg.elim, fun i y hy => ?_⟩
  match i, hy with
  | 0, hy =>
    simp at hy; subst hy
    exact ⟨[.int .u8 (k.toNat : Int)], rfl, fun j u hu => by simpa using hu⟩
theorem ba_mk (l : List UInt8) : (⟨l.toArray⟩ : ByteArray).size = l.length := by simp [ByteArray.size]
theorem ba_app (a b : List UInt8) : ((⟨a.toArray⟩ : ByteArray) ++ ⟨b.toArray⟩) = ⟨(a ++ b).toArray⟩ := by
 apply ByteArray.ext
 rw [ByteArray.data_append]
 simp
set_option maxRecDepth 100000 in
set_option maxHeartbeats 4000000 in
theorem Wrap_any (t : Nat) (ht : t < 256) (ht31 : t % 32 ≠ 31) (xs : List (List UInt8)) (A : Option Addr) (c : Nat) (hN : xs.length ≤ 1000000) (hx : ∀ x ∈ xs, x.length ≤ 1000000000) (w : World) (h : Sl RStr 1 w (Lt w.heap.size) xs [.slice A xs.length c]) :
  Calls Tryd.prog 19 #[.int .i64 (t : Int), .slice A xs.length c] w fun e w' => e = .returned (wrapR (wrapF t xs)) ∧ Below w.heap.size w w' := by
 have HS := hide h
 have HX := hide hx
 obtain ⟨r, hr⟩ : ∃ r, wrapF t xs = r := ⟨_, rfl⟩
 rw [hr]
 have HR := hide hr
 have b31 := and31 t ht
 have t31 : ((t : Int) % 32 == 31) = false := beq_false_of_ne (by omega)
 clear h hx hr
 go_enter Tryd.func19, Tryd.ntmps19
 go_wp2_with fail
 go_loopw [6, 23] (fun n i wr => ∃ k : Nat, k ≤ xs.length ∧ i = .int .i64 k ∧ n = .int .i64 ((xs.take k).flatten.length : Nat) ∧ (xs.take k).flatten.length ≤ 131072 ∧ w = wr) (fun _ i _ => xs.length - (intOf i).toNat)
 case atStart => exact ⟨0, Nat.zero_le _, rfl, rfl, Nat.zero_le _, rfl⟩
 case round =>
  obtain ⟨k, hk, rfl, rfl, hle, rfl⟩ := hrel
  by_cases hkl : k < xs.length
  ·obtain ⟨bk, o, hA, hb, hc⟩ := HS.out.strAt hkl
   subst hA
   have hlx := HX.out xs[k] (List.getElem_mem _)
   have hts := flat_take_succ xs k hkl
   have htl := flat_take_le xs (k + 1)
   obtain ⟨x, hxk⟩ : ∃ x, xs[k] = x := ⟨_, rfl⟩
   rw [hxk] at hc hlx hts
   obtain ⟨n, hn⟩ : ∃ n, (xs.take k).flatten.length = n := ⟨_, rfl⟩
   rw [hn] at hle hts ⊢
   have hsz : (⟨x.toArray⟩ : ByteArray).size = x.length := by simp [ByteArray.size]
   clear hxk hn
   by_cases hbig : 131072 < n + x.length
   ·have HR2 := hide (show r = ([], 6) by rw [← HR.out, wrapF, if_pos (by omega)])
    clear hts htl
    go_wp2_with fail
    go_ret2
    rw [HR2.out]
    exact ⟨rfl, Below.refl _ _⟩
   ·go_wp2_with fail
    go_roundw
    case rel => exact ⟨k + 1, by omega, by go_num, by rw [hts]; go_num, by omega, by first | rfl | trivial⟩
    case measure => simp [intOf]; omega
  ·have hke : k = xs.length := by omega
   subst hke
   rw [List.take_length] at hle ⊢
   obtain ⟨m, hm⟩ : ∃ m, xs.flatten.length = m := ⟨_, rfl⟩
   rw [hm] at hle ⊢
   have HM := hide hm
   have HR2 := hide (show r = (wrapW t xs.flatten, 0) by rw [← HR.out, wrapF, if_neg (by omega)])
   have ut := u8_of t
   obtain ⟨c0, hc0⟩ : ∃ c0, UInt8.ofNat t = c0 := ⟨_, rfl⟩
   rw [hc0] at ut
   have HC0 := hide hc0
   clear hm hc0
   obtain ⟨base, hbase⟩ : ∃ b, b = w.heap.size := ⟨_, rfl⟩
   have hown : Own RByte 1 5 (w.alloc (.cells #[.int .u8 (c0.toNat : Int)] 5)) base No (.slice (some ⟨w.heap.size, 0, none⟩) 1 1) [c0] := own_head (by omega) c0
   by_cases h1 : m < 128
   ·have um := u8_of m
    obtain ⟨c1, hc1⟩ : ∃ c1, UInt8.ofNat m = c1 := ⟨_, rfl⟩
    rw [hc1] at um
    have HL := hide (show lenB m = [c1] by rw [lenB, if_pos h1, hc1])
    clear hc1
    have hba2 : base ≤ ((w.alloc (.cells #[.int .u8 (c0.toNat : Int)] 5)).alloc (.cells #[.int .u8 (c1.toNat : Int)] 5)).heap.size := by rw [World.size_alloc, World.size_alloc]; omega
    have hnews := news_bytes (w.alloc (.cells #[.int .u8 (c0.toNat : Int)] 5)) No #[.int .u8 (c1.toNat : Int)] 5 [c1] rfl
    rw [World.size_alloc] at hnews
    have hown3 := hown.alloc RByte.ok (no_lt _) (.cells #[.int .u8 (c1.toNat : Int)] 5)
    have HBS := hide hbase
    clear hbase hown
    go_upto_region 19 with (first
     | (at_builtin; refine wpList_app RByte.ok _ rfl (.tmp 54) (.tmp 57) 43 rfl base 5 (.int .u8 0) 1 Tryd.underlying43 info_u8t rfl (by decide) No _ [c0] rfl hown3 ⟨_, 0, none⟩ _ _ [c1] rfl rfl hnews (no_lt _) (by simp) (by simp [maxLen]) hba2 ?_; intro v2 w2 hown2 hg2 hb2 hat2; obtain ⟨A2, cq, hv2⟩ : ∃ A2 cq, v2 = .slice A2 2 cq := (hown2.sl RByte.ok).shape; subst hv2)
     | fail)
    have hb2' : Below w.heap.size w w2 := (((Below.refl w.heap.size w).alloc (Nat.le_refl _) _).alloc (by simp) _).trans (by rw [← HBS.out]; exact hb2)
    have hsl2 : Sl RByte 1 w2 (Lt w2.heap.size) ([c0] ++ [c1]) [.slice A2 2 cq] := (Sl.ok RByte.ok).mono (hown2.sl RByte.ok) (fun _ _ => rfl) (fun k hk => by rcases hk with hk | hk; exact hk.elim; exact hk.2)
    have hconv := fun W (h : Below w2.heap.size w2 W) => run_bts_str (P := Tryd.prog) W 43 9 5 Tryd.underlying43 Tryd.underlying5 Tryd.underlying9 _ (.slice A2 2 cq) ([c0] ++ [c1]) ((Sl.ok RByte.ok).mono hsl2 (fun k hk => h.block k hk) (fun _ hk => hk))
    have hcd := hconv w2.drew (Below.refl _ _).drew
    have hsj : Sl RStr 1 w2.drew (Lt w2.drew.heap.size) xs [.slice A xs.length c] := (Sl.ok RStr.ok).mono HS.out (fun k hk => ((hb2'.drew).block k hk)) (fun k hk => Nat.lt_of_lt_of_le hk hb2'.size)
    have j0 := Join_flat A xs c w2.drew _ (fun _ h => h) hsj hN (by rw [HM.out]; omega)
    obtain ⟨yt, hyt⟩ : ∃ yt : ByteArray, yt = ⟨xs.flatten.toArray⟩ := ⟨_, rfl⟩
    rw [← hyt] at j0
    have J := hide j0
    have hyts : yt.size = m := by rw [hyt, ba_mk, HM.out]
    clear j0
    have HBD := hide (show Below w.heap.size w w2.drew from hb2'.drew)
    obtain ⟨yh, hyh⟩ : ∃ yh : ByteArray, yh = ⟨([c0] ++ [c1]).toArray⟩ := ⟨_, rfl⟩
    have hyhs : yh.size = 2 := by rw [hyh]; rfl
    have hcd' : (convert 43 9 (.slice A2 2 cq)).run Tryd.prog w2.drew = .ok (.string yh) w2.drew := by rw [hyh]; exact hcd
    have hs0 : ((convert 43 9 (.slice A2 2 cq)).run Tryd.prog w2.drew = .ok (.string yh) w2.drew ∧ Below w2.drew.heap.size w2.drew w2.drew) := ⟨hcd', Below.refl _ _⟩
    have HCV := hide (show ∀ W, Below w2.drew.heap.size w2.drew W → (convert 43 9 (.slice A2 2 cq)).run Tryd.prog W = .ok (.string yh) W from fun W hW => by rw [hyh]; exact hconv W ((Below.refl _ _).drew.trans hW))
    clear hcd hconv hsl2 hb2' hown2 hg2 hb2 hat2 hsj hown3 hnews hba2
    have hbs : ¬ 9223372036854775807 < yh.size + yt.size := by omega
    obtain ⟨y, hy⟩ : ∃ y : ByteArray, y = yh ++ yt := ⟨_, rfl⟩
    have hy2 : yh ++ yt = y := hy.symm
    have HY := hide (show y = ⟨(([c0] ++ [c1]) ++ xs.flatten).toArray⟩ by rw [hy, hyh, hyt]; exact ba_app _ _)
    have HFIN := hide (show Ending.returned (.tuple #[.string y, .int .i64 0]) = Ending.returned (wrapR r) by rw [HR2.out, wrapR, HY.out]; simp only [wrapW, HM.out, HL.out, HC0.out]; rfl)
    clear hy hyh hyt hyhs hyts
    go_region_held3 (fun W => (convert 43 9 (.slice A2 2 cq)).run Tryd.prog W = .ok (.string yh) W ∧ Below w2.drew.heap.size w2.drew W)
     (first | exact hs1 | exact hs0)
     (first
      | (go_at_call 34; refine J.out.mono ?_; rintro e wn ⟨rfl, hbn⟩; have hs1 : (convert 43 9 (.slice A2 2 cq)).run Tryd.prog wn = .ok (.string yh) wn ∧ Below w2.drew.heap.size w2.drew wn := ⟨HCV.out wn hbn, hbn⟩)
      | fail)
    all_goals
     go_wp2_with fail
     go_ret2
     exact ⟨HFIN.out, HBD.out.trans (hbn.mono HBD.out.size)⟩
   ·have um := u8_of m
    obtain ⟨c1, hc1⟩ : ∃ c1, UInt8.ofNat m = c1 := ⟨_, rfl⟩
    rw [hc1] at um
    by_cases h2 : m < 256
    ·have HL := hide (show lenB m = [129, c1] by rw [lenB, if_neg h1, if_pos h2, hc1])
     clear hc1
     have hba2 : base ≤ ((w.alloc (.cells #[.int .u8 (c0.toNat : Int)] 5)).alloc (.cells #[.int .u8 129, .int .u8 (c1.toNat : Int)] 5)).heap.size := by rw [World.size_alloc, World.size_alloc]; omega
     have hnews := news_bytes (w.alloc (.cells #[.int .u8 (c0.toNat : Int)] 5)) No #[.int .u8 129, .int .u8 (c1.toNat : Int)] 5 [129, c1] rfl
     rw [World.size_alloc] at hnews
     have hown3 := hown.alloc RByte.ok (no_lt _) (.cells #[.int .u8 129, .int .u8 (c1.toNat : Int)] 5)
     have HBS := hide hbase
     clear hbase hown
     go_upto_region 19 with (first
      | (at_builtin; refine wpList_app RByte.ok _ rfl (.tmp 62) (.tmp 65) 43 rfl base 5 (.int .u8 0) 1 Tryd.underlying43 info_u8t rfl (by decide) No _ [c0] rfl hown3 ⟨_, 0, none⟩ _ _ [129, c1] rfl rfl hnews (no_lt _) (by simp) (by simp [maxLen]) hba2 ?_; intro v2 w2 hown2 hg2 hb2 hat2; obtain ⟨A2, cq, hv2⟩ : ∃ A2 cq, v2 = .slice A2 3 cq := (hown2.sl RByte.ok).shape; subst hv2)
      | fail)
     have hb2' : Below w.heap.size w w2 := (((Below.refl w.heap.size w).alloc (Nat.le_refl _) _).alloc (by simp) _).trans (by rw [← HBS.out]; exact hb2)
     have hsl2 : Sl RByte 1 w2 (Lt w2.heap.size) ([c0] ++ [129, c1]) [.slice A2 3 cq] := (Sl.ok RByte.ok).mono (hown2.sl RByte.ok) (fun _ _ => rfl) (fun k hk => by rcases hk with hk | hk; exact hk.elim; exact hk.2)
     have hconv := fun W (h : Below w2.heap.size w2 W) => run_bts_str (P := Tryd.prog) W 43 9 5 Tryd.underlying43 Tryd.underlying5 Tryd.underlying9 _ (.slice A2 3 cq) ([c0] ++ [129, c1]) ((Sl.ok RByte.ok).mono hsl2 (fun k hk => h.block k hk) (fun _ hk => hk))
     have hcd := hconv w2.drew (Below.refl _ _).drew
     have hsj : Sl RStr 1 w2.drew (Lt w2.drew.heap.size) xs [.slice A xs.length c] := (Sl.ok RStr.ok).mono HS.out (fun k hk => ((hb2'.drew).block k hk)) (fun k hk => Nat.lt_of_lt_of_le hk hb2'.size)
     have j0 := Join_flat A xs c w2.drew _ (fun _ h => h) hsj hN (by rw [HM.out]; omega)
     obtain ⟨yt, hyt⟩ : ∃ yt : ByteArray, yt = ⟨xs.flatten.toArray⟩ := ⟨_, rfl⟩
     rw [← hyt] at j0
     have J := hide j0
     have hyts : yt.size = m := by rw [hyt, ba_mk, HM.out]
     clear j0
     have HBD := hide (show Below w.heap.size w w2.drew from hb2'.drew)
     obtain ⟨yh, hyh⟩ : ∃ yh : ByteArray, yh = ⟨([c0] ++ [129, c1]).toArray⟩ := ⟨_, rfl⟩
     have hyhs : yh.size = 3 := by rw [hyh]; rfl
     have hcd' : (convert 43 9 (.slice A2 3 cq)).run Tryd.prog w2.drew = .ok (.string yh) w2.drew := by rw [hyh]; exact hcd
     have hs0 : ((convert 43 9 (.slice A2 3 cq)).run Tryd.prog w2.drew = .ok (.string yh) w2.drew ∧ Below w2.drew.heap.size w2.drew w2.drew) := ⟨hcd', Below.refl _ _⟩
     have HCV := hide (show ∀ W, Below w2.drew.heap.size w2.drew W → (convert 43 9 (.slice A2 3 cq)).run Tryd.prog W = .ok (.string yh) W from fun W hW => by rw [hyh]; exact hconv W ((Below.refl _ _).drew.trans hW))
     clear hcd hconv hsl2 hb2' hown2 hg2 hb2 hat2 hsj hown3 hnews hba2
     have hbs : ¬ 9223372036854775807 < yh.size + yt.size := by omega
     obtain ⟨y, hy⟩ : ∃ y : ByteArray, y = yh ++ yt := ⟨_, rfl⟩
     have hy2 : yh ++ yt = y := hy.symm
     have HY := hide (show y = ⟨(([c0] ++ [129, c1]) ++ xs.flatten).toArray⟩ by rw [hy, hyh, hyt]; exact ba_app _ _)
     have HFIN := hide (show Ending.returned (.tuple #[.string y, .int .i64 0]) = Ending.returned (wrapR r) by rw [HR2.out, wrapR, HY.out]; simp only [wrapW, HM.out, HL.out, HC0.out]; rfl)
     clear hy hyh hyt hyhs hyts
     go_region_held3 (fun W => (convert 43 9 (.slice A2 3 cq)).run Tryd.prog W = .ok (.string yh) W ∧ Below w2.drew.heap.size w2.drew W)
      (first | exact hs1 | exact hs0)
      (first
       | (go_at_call 34; refine J.out.mono ?_; rintro e wn ⟨rfl, hbn⟩; have hs1 : (convert 43 9 (.slice A2 3 cq)).run Tryd.prog wn = .ok (.string yh) wn ∧ Below w2.drew.heap.size w2.drew wn := ⟨HCV.out wn hbn, hbn⟩)
       | fail)
     all_goals
      go_wp2_with fail
      go_ret2
      exact ⟨HFIN.out, HBD.out.trans (hbn.mono HBD.out.size)⟩
    ·obtain ⟨q8, hq8⟩ : ∃ q8, m / 256 = q8 := ⟨_, rfl⟩
     have um2 := u8_of q8
     rw [show (q8 : Int) = (m : Int) / 256 by omega] at um2
     obtain ⟨c2, hc2⟩ : ∃ c2, UInt8.ofNat q8 = c2 := ⟨_, rfl⟩
     rw [hc2] at um2
     by_cases h3 : m < 65536
     ·have HL := hide (show lenB m = [130, c2, c1] by rw [lenB, if_neg h1, if_neg h2, if_pos h3, hc1, hq8, hc2])
      have h1i : ¬ (m : Int) < 128 := by omega
      have h2i : ¬ (m : Int) < 256 := by omega
      have h3i : (m : Int) < 65536 := by omega
      clear hc1 hc2 hq8 h1 h2 h3 hle
      have hba2 : base ≤ ((w.alloc (.cells #[.int .u8 (c0.toNat : Int)] 5)).alloc (.cells #[.int .u8 130, .int .u8 (c2.toNat : Int), .int .u8 (c1.toNat : Int)] 5)).heap.size := by rw [World.size_alloc, World.size_alloc]; omega
      have hnews := news_bytes (w.alloc (.cells #[.int .u8 (c0.toNat : Int)] 5)) No #[.int .u8 130, .int .u8 (c2.toNat : Int), .int .u8 (c1.toNat : Int)] 5 [130, c2, c1] rfl
      rw [World.size_alloc] at hnews
      have hown3 := hown.alloc RByte.ok (no_lt _) (.cells #[.int .u8 130, .int .u8 (c2.toNat : Int), .int .u8 (c1.toNat : Int)] 5)
      have HBS := hide hbase
      clear hbase hown
      go_upto_region 19 with (first
       | (at_builtin; refine wpList_app RByte.ok _ rfl (.tmp 70) (.tmp 76) 43 rfl base 5 (.int .u8 0) 1 Tryd.underlying43 info_u8t rfl (by decide) No _ [c0] rfl hown3 ⟨_, 0, none⟩ _ _ [130, c2, c1] rfl rfl hnews (no_lt _) (by simp) (by simp [maxLen]) hba2 ?_; intro v2 w2 hown2 hg2 hb2 hat2; obtain ⟨A2, cq, hv2⟩ : ∃ A2 cq, v2 = .slice A2 4 cq := (hown2.sl RByte.ok).shape; subst hv2)
       | fail)
      have hb2' : Below w.heap.size w w2 := (((Below.refl w.heap.size w).alloc (Nat.le_refl _) _).alloc (by simp) _).trans (by rw [← HBS.out]; exact hb2)
      have hsl2 : Sl RByte 1 w2 (Lt w2.heap.size) ([c0] ++ [130, c2, c1]) [.slice A2 4 cq] := (Sl.ok RByte.ok).mono (hown2.sl RByte.ok) (fun _ _ => rfl) (fun k hk => by rcases hk with hk | hk; exact hk.elim; exact hk.2)
      have hconv := fun W (h : Below w2.heap.size w2 W) => run_bts_str (P := Tryd.prog) W 43 9 5 Tryd.underlying43 Tryd.underlying5 Tryd.underlying9 _ (.slice A2 4 cq) ([c0] ++ [130, c2, c1]) ((Sl.ok RByte.ok).mono hsl2 (fun k hk => h.block k hk) (fun _ hk => hk))
      have hcd := hconv w2.drew (Below.refl _ _).drew
      have hsj : Sl RStr 1 w2.drew (Lt w2.drew.heap.size) xs [.slice A xs.length c] := (Sl.ok RStr.ok).mono HS.out (fun k hk => ((hb2'.drew).block k hk)) (fun k hk => Nat.lt_of_lt_of_le hk hb2'.size)
      have j0 := Join_flat A xs c w2.drew _ (fun _ h => h) hsj hN (by rw [HM.out]; omega)
      obtain ⟨yt, hyt⟩ : ∃ yt : ByteArray, yt = ⟨xs.flatten.toArray⟩ := ⟨_, rfl⟩
      rw [← hyt] at j0
      have J := hide j0
      have hyts : yt.size = m := by rw [hyt, ba_mk, HM.out]
      clear j0
      have HBD := hide (show Below w.heap.size w w2.drew from hb2'.drew)
      obtain ⟨yh, hyh⟩ : ∃ yh : ByteArray, yh = ⟨([c0] ++ [130, c2, c1]).toArray⟩ := ⟨_, rfl⟩
      have hyhs : yh.size = 4 := by rw [hyh]; rfl
      have hcd' : (convert 43 9 (.slice A2 4 cq)).run Tryd.prog w2.drew = .ok (.string yh) w2.drew := by rw [hyh]; exact hcd
      have hs0 : ((convert 43 9 (.slice A2 4 cq)).run Tryd.prog w2.drew = .ok (.string yh) w2.drew ∧ Below w2.drew.heap.size w2.drew w2.drew) := ⟨hcd', Below.refl _ _⟩
      have HCV := hide (show ∀ W, Below w2.drew.heap.size w2.drew W → (convert 43 9 (.slice A2 4 cq)).run Tryd.prog W = .ok (.string yh) W from fun W hW => by rw [hyh]; exact hconv W ((Below.refl _ _).drew.trans hW))
      clear hcd hconv hsl2 hb2' hown2 hg2 hb2 hat2 hsj hown3 hnews hba2
      have hbs : ¬ 9223372036854775807 < yh.size + yt.size := by omega
      obtain ⟨y, hy⟩ : ∃ y : ByteArray, y = yh ++ yt := ⟨_, rfl⟩
      have hy2 : yh ++ yt = y := hy.symm
      have HY := hide (show y = ⟨(([c0] ++ [130, c2, c1]) ++ xs.flatten).toArray⟩ by rw [hy, hyh, hyt]; exact ba_app _ _)
      have HFIN := hide (show Ending.returned (.tuple #[.string y, .int .i64 0]) = Ending.returned (wrapR r) by rw [HR2.out, wrapR, HY.out]; simp only [wrapW, HM.out, HL.out, HC0.out]; rfl)
      clear hy hyh hyt hyhs hyts
      go_region_held3 (fun W => (convert 43 9 (.slice A2 4 cq)).run Tryd.prog W = .ok (.string yh) W ∧ Below w2.drew.heap.size w2.drew W)
       (first | exact hs1 | exact hs0)
       (first
        | (go_at_call 34; refine J.out.mono ?_; rintro e wn ⟨rfl, hbn⟩; have hs1 : (convert 43 9 (.slice A2 4 cq)).run Tryd.prog wn = .ok (.string yh) wn ∧ Below w2.drew.heap.size w2.drew wn := ⟨HCV.out wn hbn, hbn⟩)
        | fail)
      all_goals
       go_wp2_with fail
       go_ret2
       exact ⟨HFIN.out, HBD.out.trans (hbn.mono HBD.out.size)⟩
     ·obtain ⟨q16, hq16⟩ : ∃ q16, m / 65536 = q16 := ⟨_, rfl⟩
      have um3 := u8_of q16
      rw [show (q16 : Int) = (m : Int) / 65536 by omega] at um3
      obtain ⟨c3, hc3⟩ : ∃ c3, UInt8.ofNat q16 = c3 := ⟨_, rfl⟩
      rw [hc3] at um3
      have HL := hide (show lenB m = [131, c3, c2, c1] by rw [lenB, if_neg h1, if_neg h2, if_neg h3, hc1, hq8, hq16, hc2, hc3])
      have h1i : ¬ (m : Int) < 128 := by omega
      have h2i : ¬ (m : Int) < 256 := by omega
      have h3i : ¬ (m : Int) < 65536 := by omega
      have hlei : (m : Int) ≤ 131072 := by omega
      clear hc1 hc2 hc3 hq8 hq16 h1 h2 h3 hle
      have hba2 : base ≤ ((w.alloc (.cells #[.int .u8 (c0.toNat : Int)] 5)).alloc (.cells #[.int .u8 131, .int .u8 (c3.toNat : Int), .int .u8 (c2.toNat : Int), .int .u8 (c1.toNat : Int)] 5)).heap.size := by rw [World.size_alloc, World.size_alloc]; omega
      have hnews := news_bytes (w.alloc (.cells #[.int .u8 (c0.toNat : Int)] 5)) No #[.int .u8 131, .int .u8 (c3.toNat : Int), .int .u8 (c2.toNat : Int), .int .u8 (c1.toNat : Int)] 5 [131, c3, c2, c1] rfl
      rw [World.size_alloc] at hnews
      have hown3 := hown.alloc RByte.ok (no_lt _) (.cells #[.int .u8 131, .int .u8 (c3.toNat : Int), .int .u8 (c2.toNat : Int), .int .u8 (c1.toNat : Int)] 5)
      have HBS := hide hbase
      clear hbase hown
      go_upto_region 19 with (first
       | (at_builtin; refine wpList_app RByte.ok _ rfl (.tmp 40) (.tmp 49) 43 rfl base 5 (.int .u8 0) 1 Tryd.underlying43 info_u8t rfl (by decide) No _ [c0] rfl hown3 ⟨_, 0, none⟩ _ _ [131, c3, c2, c1] rfl rfl hnews (no_lt _) (by simp) (by simp [maxLen]) hba2 ?_; intro v2 w2 hown2 hg2 hb2 hat2; obtain ⟨A2, cq, hv2⟩ : ∃ A2 cq, v2 = .slice A2 5 cq := (hown2.sl RByte.ok).shape; subst hv2)
       | fail)
      have hb2' : Below w.heap.size w w2 := (((Below.refl w.heap.size w).alloc (Nat.le_refl _) _).alloc (by simp) _).trans (by rw [← HBS.out]; exact hb2)
      have hsl2 : Sl RByte 1 w2 (Lt w2.heap.size) ([c0] ++ [131, c3, c2, c1]) [.slice A2 5 cq] := (Sl.ok RByte.ok).mono (hown2.sl RByte.ok) (fun _ _ => rfl) (fun k hk => by rcases hk with hk | hk; exact hk.elim; exact hk.2)
      have hconv := fun W (h : Below w2.heap.size w2 W) => run_bts_str (P := Tryd.prog) W 43 9 5 Tryd.underlying43 Tryd.underlying5 Tryd.underlying9 _ (.slice A2 5 cq) ([c0] ++ [131, c3, c2, c1]) ((Sl.ok RByte.ok).mono hsl2 (fun k hk => h.block k hk) (fun _ hk => hk))
      have hcd := hconv w2.drew (Below.refl _ _).drew
      have hsj : Sl RStr 1 w2.drew (Lt w2.drew.heap.size) xs [.slice A xs.length c] := (Sl.ok RStr.ok).mono HS.out (fun k hk => ((hb2'.drew).block k hk)) (fun k hk => Nat.lt_of_lt_of_le hk hb2'.size)
      have j0 := Join_flat A xs c w2.drew _ (fun _ h => h) hsj hN (by rw [HM.out]; omega)
      obtain ⟨yt, hyt⟩ : ∃ yt : ByteArray, yt = ⟨xs.flatten.toArray⟩ := ⟨_, rfl⟩
      rw [← hyt] at j0
      have J := hide j0
      have hyts : yt.size = m := by rw [hyt, ba_mk, HM.out]
      clear j0
      have HBD := hide (show Below w.heap.size w w2.drew from hb2'.drew)
      obtain ⟨yh, hyh⟩ : ∃ yh : ByteArray, yh = ⟨([c0] ++ [131, c3, c2, c1]).toArray⟩ := ⟨_, rfl⟩
      have hyhs : yh.size = 5 := by rw [hyh]; rfl
      have hcd' : (convert 43 9 (.slice A2 5 cq)).run Tryd.prog w2.drew = .ok (.string yh) w2.drew := by rw [hyh]; exact hcd
      have hs0 : ((convert 43 9 (.slice A2 5 cq)).run Tryd.prog w2.drew = .ok (.string yh) w2.drew ∧ Below w2.drew.heap.size w2.drew w2.drew) := ⟨hcd', Below.refl _ _⟩
      have HCV := hide (show ∀ W, Below w2.drew.heap.size w2.drew W → (convert 43 9 (.slice A2 5 cq)).run Tryd.prog W = .ok (.string yh) W from fun W hW => by rw [hyh]; exact hconv W ((Below.refl _ _).drew.trans hW))
      clear hcd hconv hsl2 hb2' hown2 hg2 hb2 hat2 hsj hown3 hnews hba2
      have hbs : ¬ 9223372036854775807 < yh.size + yt.size := by omega
      obtain ⟨y, hy⟩ : ∃ y : ByteArray, y = yh ++ yt := ⟨_, rfl⟩
      have hy2 : yh ++ yt = y := hy.symm
      have HY := hide (show y = ⟨(([c0] ++ [131, c3, c2, c1]) ++ xs.flatten).toArray⟩ by rw [hy, hyh, hyt]; exact ba_app _ _)
      have HFIN := hide (show Ending.returned (.tuple #[.string y, .int .i64 0]) = Ending.returned (wrapR r) by rw [HR2.out, wrapR, HY.out]; simp only [wrapW, HM.out, HL.out, HC0.out]; rfl)
      clear hy hyh hyt hyhs hyts
      go_region_held3 (fun W => (convert 43 9 (.slice A2 5 cq)).run Tryd.prog W = .ok (.string yh) W ∧ Below w2.drew.heap.size w2.drew W)
       (first | exact hs1 | exact hs0)
       (first
        | (go_at_call 34; refine J.out.mono ?_; rintro e wn ⟨rfl, hbn⟩; have hs1 : (convert 43 9 (.slice A2 5 cq)).run Tryd.prog wn = .ok (.string yh) wn ∧ Below w2.drew.heap.size w2.drew wn := ⟨HCV.out wn hbn, hbn⟩)
        | fail)
      all_goals
       go_wp2_with fail
       go_ret2
       exact ⟨HFIN.out, HBD.out.trans (hbn.mono HBD.out.size)⟩
end Go.Proofs.YtmgnihmjjijdoaaDoor
namespace Go.Proofs.YtmgnihmjjijdoaaDoor
open Go.RowKit
def oneR : Except Int Elt → Value
 | .error k => .tuple #[noElt, .int .i64 k]
 | .ok e => .tuple #[eltV e, .int .i64 0]
theorem resE_new (w : World) : ResE w.heap.size (w.alloc (.cells #[.int .i64 0, .string ⟨#[]⟩, .string ⟨#[]⟩] 50)) := heap_alloc_new w _
theorem str_nil {l : List UInt8} {x : ByteArray} (h : x = ⟨l.toArray⟩) : l = [] ↔ x.size = 0 := by
 subst h
 constructor
 ·intro h; subst h; rfl
 ·intro h; exact List.eq_nil_of_length_eq_zero h
def oneG : Except Int (Elt × List UInt8) → Except Int Elt
 | .error k => .error k
 | .ok (e, r) => if r = [] then .ok e else .error 4
theorem oneF_eq (b : List UInt8) : oneF b = oneG (readF b) := by
 unfold oneF oneG
 cases readF b <;> rfl
set_option maxRecDepth 100000 in
set_option maxHeartbeats 4000000 in
theorem One_any (s : ByteArray) (hs : s.size ≤ 1000000000) (w : World) :
    Calls Tryd.prog 26 #[.string s] w fun e w' => e = .returned (oneR (oneF s.data.toList)) ∧ Below w.heap.size w w' := by
  obtain ⟨r, hr⟩ : ∃ r, readF s.data.toList = r := ⟨_, rfl⟩
  obtain ⟨o, ho⟩ : ∃ o, oneF s.data.toList = o := ⟨_, rfl⟩
  rw [ho]
  have HO := hide (show o = oneG r by rw [← ho, oneF_eq, hr])
  have HR := hide hr
  clear hr ho
  go_enter Tryd.func26, Tryd.ntmps26
  go_wp2_with fail
  refine (Read_any s hs _).mono ?_
  rintro e w1 ⟨rfl, hb1⟩
  rw [HR.out]
  have hb0 : Below w.heap.size w w1 := ((Below.refl _ _).alloc (Nat.le_refl _) _).trans (hb1.mono (by simp))
  have hr1 : ResE w.heap.size w1 := (resE_new w).below hb1
  have hgl : w.heap.size < w1.heap.size := hr1.lt
  have HR1 := hide hr1
  have HB1 := hide hb0
  clear hr1 hb0 hb1
  cases r with
  | error k =>
    have hk : k ≠ 0 := fun h => read_err0 _ (h ▸ HR.out)
    have ht : (k != 0) = true := by simpa using hk
    have HN := hide (show o = .error k from HO.out)
    have hrA := HR1.out.below ((Below.refl w1.heap.size w1).alloc (Nat.le_refl _) (.cells #[.int .i64 0, .string ⟨#[]⟩, .string ⟨#[]⟩] 50))
    have hbA := HB1.out.alloc HB1.out.size (.cells #[.int .i64 0, .string ⟨#[]⟩, .string ⟨#[]⟩] 50)
    rw [show readR (.error k) = .tuple #[.agg #[.int .i64 0, .string ⟨#[]⟩, .string ⟨#[]⟩], .string ⟨#[]⟩, .int .i64 k] from rfl]
    clear hk
    go_upto_region 2 with fail
    obtain ⟨wA, hwA⟩ : ∃ W, W = w1.alloc (.cells #[.int .i64 0, .string ⟨#[]⟩, .string ⟨#[]⟩] 50) := ⟨_, rfl⟩
    rw [← hwA] at hrA hbA ⊢
    clear hwA
    obtain ⟨r0, r1, r2, f0, f1, f2⟩ := hrA.facts
    go_wp2_with fail
    obtain ⟨q0, q1, q2⟩ := hrA.store (.int .i64 0) (.string ⟨#[]⟩) (.string ⟨#[]⟩)
    have hbz := below_store3' hbA (Nat.le_refl w.heap.size) (.int .i64 0) (.string ⟨#[]⟩) (.string ⟨#[]⟩)
    obtain ⟨W3, hW3⟩ : ∃ W3, W3 = ((wA.setCell ⟨w.heap.size, 0, none⟩ (.int .i64 0)).setCell ⟨w.heap.size, 1, none⟩ (.string ⟨#[]⟩)).setCell ⟨w.heap.size, 2, none⟩ (.string ⟨#[]⟩) := ⟨_, rfl⟩
    rw [← hW3] at q0 q1 q2 hbz ⊢
    exact bodyPost_ret (v := .tuple #[.agg #[(.int .i64 0), (.string ⟨#[]⟩), (.string ⟨#[]⟩)], .int .i64 k]) (by simp [results, Tryd.results26, go_sem, q0, q1, q2]) rfl ⟨by rw [HN.out]; rfl, hbz⟩
  | ok p =>
    obtain ⟨⟨t, c, raw⟩, q⟩ := p
    obtain ⟨x1, hx1⟩ : ∃ x : ByteArray, x = ⟨c.toArray⟩ := ⟨_, rfl⟩
    obtain ⟨x2, hx2⟩ : ∃ x : ByteArray, x = ⟨raw.toArray⟩ := ⟨_, rfl⟩
    obtain ⟨x3, hx3⟩ : ∃ x : ByteArray, x = ⟨q.toArray⟩ := ⟨_, rfl⟩
    have HV := hide (show eltV (t, c, raw) = .agg #[.int .i64 (t : Int), .string x1, .string x2] by rw [eltV, hx1, hx2])
    rw [show readR (.ok ((t, c, raw), q)) = .tuple #[.agg #[.int .i64 (t : Int), .string x1, .string x2], .string x3, .int .i64 0] by rw [readR, HV.out, hx3]]
    have hrA := HR1.out.below ((Below.refl w1.heap.size w1).alloc (Nat.le_refl _) (.cells #[.int .i64 (t : Int), .string x1, .string x2] 50))
    have hbA := HB1.out.alloc HB1.out.size (.cells #[.int .i64 (t : Int), .string x1, .string x2] 50)
    have hq := str_nil hx3
    have hxs := size_string x3
    clear hx1 hx2 hx3
    go_upto_region 2 with fail
    obtain ⟨wA, hwA⟩ : ∃ W, W = w1.alloc (.cells #[.int .i64 (t : Int), .string x1, .string x2] 50) := ⟨_, rfl⟩
    have n0 : wA.cell? ⟨w1.heap.size, 0, none⟩ = some (.int .i64 (t : Int)) := by rw [hwA, World.cell?_alloc_new]; rfl
    have n1 : wA.cell? ⟨w1.heap.size, 1, none⟩ = some (.string x1) := by rw [hwA, World.cell?_alloc_new]; rfl
    have n2 : wA.cell? ⟨w1.heap.size, 2, none⟩ = some (.string x2) := by rw [hwA, World.cell?_alloc_new]; rfl
    rw [← hwA] at hrA hbA ⊢
    clear hwA
    obtain ⟨r0, r1, r2, f0, f1, f2⟩ := hrA.facts
    by_cases h0 : x3.size = 0
    · have HN := hide (show o = .ok (t, c, raw) by rw [HO.out, oneG, if_pos (hq.2 h0)])
      have e1 : x3.toList = [] := by rw [ByteArray.toList_eq]; exact List.eq_nil_of_length_eq_zero (by omega)
      have e2 : ¬ (0 : Int) < (x3.size : Int) := by omega
      clear hq h0 hxs
      go_wp2_with fail
      obtain ⟨q0, q1, q2⟩ := hrA.store (.int .i64 (t : Int)) (.string x1) (.string x2)
      have hbz := below_store3' hbA (Nat.le_refl w.heap.size) (.int .i64 (t : Int)) (.string x1) (.string x2)
      obtain ⟨W3, hW3⟩ : ∃ W3, W3 = ((wA.setCell ⟨w.heap.size, 0, none⟩ (.int .i64 (t : Int))).setCell ⟨w.heap.size, 1, none⟩ (.string x1)).setCell ⟨w.heap.size, 2, none⟩ (.string x2) := ⟨_, rfl⟩
      rw [← hW3] at q0 q1 q2 hbz ⊢
      exact bodyPost_ret (v := .tuple #[.agg #[(.int .i64 (t : Int)), (.string x1), (.string x2)], .int .i64 0]) (by simp [results, Tryd.results26, go_sem, q0, q1, q2]) rfl ⟨by rw [HN.out, oneR, HV.out], hbz⟩
    · have HN := hide (show o = .error 4 by rw [HO.out, oneG, if_neg (fun h => h0 (hq.1 h))])
      have e0 : ¬ x3.toList = [] := by rw [ByteArray.toList_eq]; intro e; rw [e] at hxs; simp at hxs; omega
      have e1 : (x3.toList == []) = false := by simpa using e0
      have e3 : x3.toList.isEmpty = false := by simpa using e0
      have e2 : (0 : Int) < (x3.size : Int) := by omega
      clear hq h0 hxs e0
      go_wp2_with fail
      obtain ⟨q0, q1, q2⟩ := hrA.store (.int .i64 0) (.string ⟨#[]⟩) (.string ⟨#[]⟩)
      have hbz := below_store3' hbA (Nat.le_refl w.heap.size) (.int .i64 0) (.string ⟨#[]⟩) (.string ⟨#[]⟩)
      obtain ⟨W3, hW3⟩ : ∃ W3, W3 = ((wA.setCell ⟨w.heap.size, 0, none⟩ (.int .i64 0)).setCell ⟨w.heap.size, 1, none⟩ (.string ⟨#[]⟩)).setCell ⟨w.heap.size, 2, none⟩ (.string ⟨#[]⟩) := ⟨_, rfl⟩
      rw [← hW3] at q0 q1 q2 hbz ⊢
      exact bodyPost_ret (v := .tuple #[.agg #[(.int .i64 0), (.string ⟨#[]⟩), (.string ⟨#[]⟩)], .int .i64 4]) (by simp [results, Tryd.results26, go_sem, q0, q1, q2]) rfl ⟨by rw [HN.out]; rfl, hbz⟩
end Go.Proofs.YtmgnihmjjijdoaaDoor
namespace Go.Proofs.YtmgnihmjjijdoaaDoor
open Go.RowKit
theorem info_elt : (Tryd.prog.info? 50).map (fun i => (i.zero, i.size, i.bytes)) = some (some (.agg #[.int .i64 0, .string ⟨#[]⟩, .string ⟨#[]⟩]), 3, 40) := by kernel_rfl
def preL (out : List Elt) : Except Int (List Elt) → Except Int (List Elt)
 | .error k => .error k
 | .ok l => .ok (out ++ l)
theorem preL_nil (o : Except Int (List Elt)) : preL [] o = o := by cases o <;> rfl
theorem preL_app (a b : List Elt) (o : Except Int (List Elt)) : preL a (preL b o) = preL (a ++ b) o := by cases o <;> simp [preL]
theorem listF_pre {b : List UInt8} {e : Elt} {r : List UInt8} (h : readF b = .ok (e, r)) : listF b = preL [e] (listF r) := by
 rw [listF_cons h]
 cases listF r <;> rfl
def listRes : Except Int (List Elt) → World → Ending → World → Prop
 | .error k, _, e, _ => e = .returned (.tuple #[.slice none 0 0, .int .i64 k])
 | .ok l, w, e, w' => ∃ A c, e = .returned (.tuple #[.slice A l.length c, .int .i64 0]) ∧ Sl RElt 3 w' (Btw w.heap.size w'.heap.size) l [.slice A l.length c]
def ListPost (w : World) (o : Except Int (List Elt)) (e : Ending) (w' : World) : Prop := Below w.heap.size w w' ∧ listRes o w e w'
theorem ListPost.err {w w' : World} {o : Except Int (List Elt)} {k : Int} (h : o = .error k) (hb : Below w.heap.size w w') : ListPost w o (.returned (.tuple #[.slice none 0 0, .int .i64 k])) w' := by
 subst h; exact ⟨hb, rfl⟩
theorem ListPost.ok {w w' : World} {o : Except Int (List Elt)} {l : List Elt} {A : Option Addr} {n c : Nat} (h : o = .ok l) (hb : Below w.heap.size w w') (hs : Sl RElt 3 w' (Btw w.heap.size w'.heap.size) l [.slice A n c]) : ListPost w o (.returned (.tuple #[.slice A n c, .int .i64 0])) w' := by
 subst h
 obtain ⟨rfl, _⟩ := hs.len_
 exact ⟨hb, A, c, rfl, hs⟩
theorem news_elt (w : World) (S : Nat → Prop) (t : TypeId) (k : Nat) (x1 x2 : ByteArray) :
  ∀ i y, [((k, x1.data.toList, x2.data.toList) : Elt)][i]? = some y → ∃ cs, RElt (w.alloc (.cells #[.int .i64 (k : Int), .string x1, .string x2] t)) S y cs ∧ ∀ j u, cs[j]? = some u → (w.alloc (.cells #[.int .i64 (k : Int), .string x1, .string x2] t)).cell? ((⟨w.heap.size, 0, none⟩ : Addr).add (i * 3 + j)) = some u :=
 news_pu (f := eltC) (size := 3) (fun _ => rfl) w S _ t _ rfl
set_option maxRecDepth 100000 in
set_option maxHeartbeats 4000000 in
theorem List_any (s : ByteArray) (hs : s.size ≤ 1000000000) (w : World) :
    Calls Tryd.prog 27 #[.string s] w (ListPost w (listF s.data.toList)) := by
  obtain ⟨o, ho⟩ : ∃ o, listF s.data.toList = o := ⟨_, rfl⟩
  rw [ho]
  have HO := hide ho
  obtain ⟨base, hbase⟩ : ∃ b, b = w.heap.size := ⟨_, rfl⟩
  have HBASE := hide hbase
  have hgs0 : base ≤ w.heap.size := by omega
  clear ho hbase
  go_enter Tryd.func27, Tryd.ntmps27
  go_wp2_with fail
  go_loopg [0, 4] s.size (fun g x v wr => ∃ (y : ByteArray) (out : List Elt), x = .string y ∧ y.size ≤ g ∧ g + out.length ≤ s.size ∧ Own RElt 3 50 wr base No v out ∧ Below base w wr ∧ base ≤ wr.heap.size ∧ Hid (o = preL out (listF y.data.toList)))
  case atStart => exact ⟨s, [], rfl, Nat.le_refl _, by simp, Own.nil _ _ _ _ _ _, Below.refl _ _, hgs0, hide (by rw [preL_nil, HO.out])⟩
  case round =>
    obtain ⟨y, out, rfl, hyg, hgo, hown, hb, hgs, H⟩ := hrel
    have hys := size_string y
    by_cases h0 : y.size = 0
    · have e1 : y.toList = [] := by rw [ByteArray.toList_eq]; exact List.eq_nil_of_length_eq_zero (by omega)
      have e2 : ¬ (0 : Int) < (y.size : Int) := by omega
      have HN := hide (show o = .ok out by rw [H.out, ← ByteArray.toList_eq, e1, listF_nil, preL, List.append_nil])
      have hsl := (Sl.ok RElt.ok).mono (hown.sl RElt.ok) (S' := Btw w.heap.size wr.heap.size) (fun _ _ => rfl) (fun k hk => by rcases hk with hk | hk; exact hk.elim; rw [HBASE.out] at hk; exact hk)
      obtain ⟨A, cp, hv⟩ := hsl.shape
      subst hv
      have HB := hide (HBASE.out ▸ hb)
      have HSL := hide hsl
      clear hb hsl hown hys h0
      go_wp2_with fail
      go_ret2
      exact ListPost.ok HN.out HB.out HSL.out
    · have e0 : ¬ y.toList = [] := by rw [ByteArray.toList_eq]; intro e; rw [e] at hys; simp at hys; omega
      have e1 : (y.toList == []) = false := by simpa using e0
      have e3 : y.toList.isEmpty = false := by simpa using e0
      have e2 : (0 : Int) < (y.size : Int) := by omega
      have hne : y.data.toList ≠ [] := by rw [← ByteArray.toList_eq]; exact e0
      have HNE := hide hne
      have HOWN := hide hown
      have HB := hide hb
      obtain ⟨A, cp, hv⟩ := (hown.sl RElt.ok).shape
      subst hv
      clear hys h0 e0 hne hown hb
      obtain ⟨r, hr⟩ : ∃ r, readF y.data.toList = r := ⟨_, rfl⟩
      have HR := hide hr
      clear hr
      obtain ⟨wo, rfl⟩ : ∃ wo : World, wo = wr := ⟨_, rfl⟩
      go_wp2_with fail
      refine (Read_any y (by omega) _).mono ?_
      rintro e w5 ⟨rfl, hb5⟩
      rw [HR.out]
      have HB5 := hide (HB.out.trans (hb5.mono hgs))
      have hs5 := hb5.size
      have HOWN5 := hide (HOWN.out.below RElt.ok (no_lt _) hb5)
      clear hb5
      cases r with
      | error k =>
        have hk : k ≠ 0 := fun h => read_err0 _ (h ▸ HR.out)
        have ht : (k != 0) = true := by simpa using hk
        have HN := hide (show o = .error k by rw [H.out, listF_error HNE.out HR.out]; rfl)
        rw [show readR (.error k) = .tuple #[.agg #[.int .i64 0, .string ⟨#[]⟩, .string ⟨#[]⟩], .string ⟨#[]⟩, .int .i64 k] from rfl]
        clear hk
        go_wp2_with fail
        go_ret2
        exact ListPost.err HN.out ((HBASE.out ▸ HB5.out).alloc (by have := HBASE.out; omega) _)
      | ok p =>
        obtain ⟨⟨t, c, raw⟩, q⟩ := p
        have hlen := read_len HR.out
        obtain ⟨x1, hx1⟩ : ∃ x : ByteArray, x = ⟨c.toArray⟩ := ⟨_, rfl⟩
        obtain ⟨x2, hx2⟩ : ∃ x : ByteArray, x = ⟨raw.toArray⟩ := ⟨_, rfl⟩
        obtain ⟨x3, hx3⟩ : ∃ x : ByteArray, x = ⟨q.toArray⟩ := ⟨_, rfl⟩
        have hd1 : c = x1.data.toList := by rw [hx1]
        have hd2 : raw = x2.data.toList := by rw [hx2]
        have hd3 : q = x3.data.toList := by rw [hx3]
        have hx3s : x3.size < y.size := by
          have := hlen.2.2
          rw [hd3, size_string, size_string] at this
          exact this
        rw [show readR (.ok ((t, c, raw), q)) = .tuple #[.agg #[.int .i64 (t : Int), .string x1, .string x2], .string x3, .int .i64 0] by rw [readR, eltV, hx1, hx2, hx3]]
        have HX := hide (show o = preL (out ++ [(t, x1.data.toList, x2.data.toList)]) (listF x3.data.toList) by rw [H.out, listF_pre HR.out, preL_app, hd1, hd2, hd3])
        clear hlen hx1 hx2 hx3 hd1 hd2 hd3
        go_upto_region 4 with fail
        obtain ⟨wA, hwA⟩ : ∃ W, W = w5.alloc (.cells #[.int .i64 (t : Int), .string x1, .string x2] 50) := ⟨_, rfl⟩
        have n0 : wA.cell? ⟨w5.heap.size, 0, none⟩ = some (.int .i64 (t : Int)) := by rw [hwA, World.cell?_alloc_new]; rfl
        have n1 : wA.cell? ⟨w5.heap.size, 1, none⟩ = some (.string x1) := by rw [hwA, World.cell?_alloc_new]; rfl
        have n2 : wA.cell? ⟨w5.heap.size, 2, none⟩ = some (.string x2) := by rw [hwA, World.cell?_alloc_new]; rfl
        have HBA := hide (show Below base w wA by rw [hwA]; exact HB5.out.alloc (by omega) _)
        have HOA := hide (show Own RElt 3 50 wA base No (.slice A out.length cp) out by rw [hwA]; exact HOWN5.out.alloc RElt.ok (no_lt _) _)
        have hzA : w5.heap.size < wA.heap.size := by rw [hwA]; simp
        rw [← hwA]
        clear hwA
        go_wp2_with (at_builtin; refine wpList_app RElt.ok _ rfl (.tmp 19) (.tmp 21) 53 rfl base 50 (.agg #[.int .i64 0, .string ⟨#[]⟩, .string ⟨#[]⟩]) 40 Tryd.underlying53 info_elt rfl (by decide) No _ out rfl (HOA.out.alloc RElt.ok (no_lt _) _) ⟨_, 0, none⟩ 1 1 [(t, x1.data.toList, x2.data.toList)] rfl rfl (news_elt _ _ _ t x1 x2) (no_lt _) (by simp; omega) (by simp [maxLen]; omega) (by simp; omega) ?_; intro v2 w2 hown2 hg2 hb2 hat2; have hsz2 := hb2.size; simp at hsz2)
        go_roundg x3.size
        case rel => exact ⟨x3, _, rfl, Nat.le_refl _, by simp; omega, hown2, (below_alloc HBA.out (by omega) _).trans hb2, by omega, HX⟩
        case measure => omega
end Go.Proofs.YtmgnihmjjijdoaaDoor
namespace Go.Proofs.YtmgnihmjjijdoaaDoor
open Go.RowKit
end Go.Proofs.YtmgnihmjjijdoaaDoor
namespace Go.Proofs.YtmgnihmjjijdoaaDoor
open Go.RowKit
def wrapG (t : Nat) (xs : List (List UInt8)) : List UInt8 × Int := if t % 32 = 31 then ([], 5) else wrapF t xs
theorem sl_lit (w : World) (C : Array Value) (t : TypeId) (l : List UInt8) (hC : C.toList = l.map fun b => Value.int .u8 (b.toNat : Int)) (hl : l.length ≤ maxLen) :
  Sl RByte 1 (w.alloc (.cells C t)) (Lt (w.alloc (.cells C t)).heap.size) l [.slice (some ⟨w.heap.size, 0, none⟩) l.length l.length] := by
 refine ⟨_, _, rfl, Nat.le_refl _, hl, fun _ => ⟨w.heap.size, 0, rfl, by show _ < _; simp, fun i x hx => ?_⟩⟩
 obtain ⟨cs, h1, h2⟩ := news_bytes w (Lt (w.alloc (.cells C t)).heap.size) C t l hC i x hx
 refine ⟨cs, h1, fun j u hu => ?_⟩
 have := h2 j u hu
 rw [Addr.add_lit] at this
 exact this
theorem conv_lit (w : World) (C : Array Value) (l : List UInt8) (hC : C.toList = l.map fun b => Value.int .u8 (b.toNat : Int)) (hl : l.length ≤ maxLen) (y : ByteArray) (hy : y = ⟨l.toArray⟩) :
  (convert 43 9 (.slice (some ⟨w.heap.size, 0, none⟩) l.length l.length)).run Tryd.prog (w.alloc (.cells C 5)) = .ok (.string y) (w.alloc (.cells C 5)) := by
 subst hy
 exact run_bts_str (P := Tryd.prog) _ 43 9 5 Tryd.underlying43 Tryd.underlying5 Tryd.underlying9 _ _ _ (sl_lit w C 5 l hC hl)
set_option maxRecDepth 100000 in
set_option maxHeartbeats 8000000 in
theorem rWrap_any (t : Nat) (ht : t < 256) (xs : List (List UInt8)) (A : Option Addr) (c : Nat) (hx : xs.flatten.length ≤ 1000000000000) (w : World) (h : Sl RStr 1 w (Lt w.heap.size) xs [.slice A xs.length c]) :
  Calls Tryd.prog 35 #[.int .i64 (t : Int), .slice A xs.length c] w fun e w' => e = .returned (wrapR (wrapG t xs)) ∧ Below w.heap.size w w' := by
 obtain ⟨-, hnc, hcm⟩ := h.len_
 unfold maxLen at hcm
 have HS := hide h
 obtain ⟨r, hr⟩ : ∃ r, wrapG t xs = r := ⟨_, rfl⟩
 rw [hr]
 have HR := hide hr
 obtain ⟨m, hm⟩ : ∃ m, t % 32 = m := ⟨_, rfl⟩
 have b31 : (t : Int) % 32 = (m : Int) := by omega
 have ht0 : (0 : Int) ≤ (t : Int) := by omega
 have ht255 : (t : Int) ≤ 255 := by omega
 clear h hr
 by_cases h31 : m = 31
 ·have t31 : ((m : Int) == 31) = true := by rw [h31]; rfl
  have HN := hide (show r = ([], 5) by rw [← HR.out, wrapG, if_pos (by omega)])
  clear h31 hm
  go_enter Tryd.func35, Tryd.ntmps35
  go_wp2_with fail
  go_ret2
  exact ⟨by rw [HN.out]; rfl, Below.refl _ _⟩
 ·have t31 : ((m : Int) == 31) = false := beq_false_of_ne (by omega)
  have HR1 := hide (show r = wrapF t xs by rw [← HR.out, wrapG, if_neg (by omega)])
  clear h31 hm
  go_enter Tryd.func35, Tryd.ntmps35
  go_wp2_with fail
  clear b31
  go_loopw [6, 24] (fun s i wr => w = wr ∧ ∃ k : Nat, k ≤ xs.length ∧ i = .int .i64 k ∧ s = .string ⟨(xs.take k).flatten.toArray⟩) (fun _ i _ => xs.length - (intOf i).toNat)
  case atStart => exact ⟨rfl, 0, Nat.zero_le _, rfl, rfl⟩
  case round =>
   obtain ⟨rfl, k, hk, rfl, rfl⟩ := hrel
   by_cases hkl : k < xs.length
   ·obtain ⟨bk, o, hA, hb, hc⟩ := HS.out.strAt hkl
    subst hA
    have hfl : (xs.take (k + 1)).flatten = (xs.take k).flatten ++ xs[k] := by rw [List.take_succ_eq_append_getElem hkl, List.flatten_append]; simp
    have hle := flat_take_le xs (k + 1)
    rw [hfl, List.length_append] at hle
    obtain ⟨a, ha⟩ : ∃ a : ByteArray, a = ⟨(xs.take k).flatten.toArray⟩ := ⟨_, rfl⟩
    obtain ⟨b, hb'⟩ : ∃ b : ByteArray, b = ⟨xs[k].toArray⟩ := ⟨_, rfl⟩
    have hza : a.size = (xs.take k).flatten.length := by rw [ha, ba_mk]
    have hzb : b.size = xs[k].length := by rw [hb', ba_mk]
    have HAB := hide (show a ++ b = ⟨(xs.take (k + 1)).flatten.toArray⟩ by rw [ha, hb', ba_app, hfl])
    rw [← ha]
    rw [← hb'] at hc
    have hbs : ¬ 9223372036854775807 < a.size + b.size := by omega
    obtain ⟨y, hy⟩ : ∃ y : ByteArray, a ++ b = y := ⟨_, rfl⟩
    have HY := hide hy
    clear hfl hle ha hb' hza hzb
    go_wp2_with fail
    go_roundw
    case rel => exact ⟨trivial, k + 1, by omega, by go_num, by rw [← HAB.out, HY.out]⟩
    case measure => simp [intOf]; omega
   ·have hke : k = xs.length := by omega
    subst hke
    rw [List.take_length]
    obtain ⟨y, hy⟩ : ∃ y : ByteArray, y = ⟨xs.flatten.toArray⟩ := ⟨_, rfl⟩
    rw [← hy]
    obtain ⟨m, hm⟩ : ∃ m, xs.flatten.length = m := ⟨_, rfl⟩
    have hys : y.size = m := by rw [hy, ba_mk, hm]
    have HY := hide hy
    have HM := hide hm
    clear hy hm hk
    by_cases hbig : 131072 < m
    ·have HN := hide (show r = ([], 6) by rw [HR1.out, wrapF, if_pos (by rw [HM.out]; exact hbig)])
     go_wp2_with fail
     go_ret2
     exact ⟨by rw [HN.out]; rfl, Below.refl _ _⟩
    ·have HR2 := hide (show r = (wrapW t xs.flatten, 0) by rw [HR1.out, wrapF, if_neg (by rw [HM.out]; exact hbig)])
     have ut := u8_of t
     obtain ⟨c0, hc0⟩ : ∃ c0, UInt8.ofNat t = c0 := ⟨_, rfl⟩
     rw [hc0] at ut
     have HC0 := hide hc0
     have um := u8_of m
     obtain ⟨c1, hc1⟩ : ∃ c1, UInt8.ofNat m = c1 := ⟨_, rfl⟩
     rw [hc1] at um
     have hmi : (m : Int) ≤ 131072 := by omega
     have hb0 := Below.refl w.heap.size w
     clear hc0
     by_cases h1 : m < 128
     ·have HL := hide (show lenB m = [c1] by rw [lenB, if_pos h1, hc1])
      have h1i : ¬ (128 : Int) ≤ (m : Int) := by omega
      have h2i : ¬ (256 : Int) ≤ (m : Int) := by omega
      have h3i : ¬ (65536 : Int) ≤ (m : Int) := by omega
      clear hc1 hbig h1
      have hcv : (convert 43 9 (.slice (some ⟨w.heap.size, 0, none⟩) 2 2)).run Tryd.prog (World.alloc w (.cells #[.int .u8 (c0.toNat : Int), .int .u8 (c1.toNat : Int)] 5)) = .ok (.string ⟨([c0, c1]).toArray⟩) (World.alloc w (.cells #[.int .u8 (c0.toNat : Int), .int .u8 (c1.toNat : Int)] 5)) := by
       have := conv_lit w #[.int .u8 (c0.toNat : Int), .int .u8 (c1.toNat : Int)] [c0, c1] rfl (by simp [maxLen]) ⟨([c0, c1]).toArray⟩ rfl
       first | exact this | (rw [World.size_alloc] at this; exact this)
      obtain ⟨yh, hyh⟩ : ∃ yh : ByteArray, yh = ⟨([c0, c1]).toArray⟩ := ⟨_, rfl⟩
      have hyhs : yh.size = 2 := by rw [hyh]; rfl
      rw [← hyh] at hcv
      have hb9 : Below w.heap.size w (World.alloc w (.cells #[.int .u8 (c0.toNat : Int), .int .u8 (c1.toNat : Int)] 5)) := hb0.alloc (by omega) _
      go_upto_region 19 with fail
      obtain ⟨W9, hW9⟩ : ∃ W, W = World.alloc w (.cells #[.int .u8 (c0.toNat : Int), .int .u8 (c1.toNat : Int)] 5) := ⟨_, rfl⟩
      rw [← hW9] at hcv hb9 ⊢
      have hbs : ¬ 9223372036854775807 < yh.size + y.size := by omega
      obtain ⟨z, hz⟩ : ∃ z : ByteArray, z = yh ++ y := ⟨_, rfl⟩
      have hz2 : yh ++ y = z := hz.symm
      have HZ := hide (show z = ⟨(([c0, c1]) ++ xs.flatten).toArray⟩ by rw [hz, hyh, HY.out]; exact ba_app _ _)
      have HB9 := hide hb9
      clear hW9 hz hyh hyhs hb9 hb0
      go_wp2_with fail
      go_ret2
      refine ⟨?_, HB9.out⟩
      rw [HR2.out, wrapR, HZ.out]
      simp only [wrapW, HM.out, HL.out, HC0.out]
      rfl
     ·have hb0 := hb0.alloc (Nat.le_refl _) (.cells #[.int .u8 (c0.toNat : Int), .int .u8 (c1.toNat : Int)] 5)
      have hsz0 : w.heap.size ≤ (w.alloc (.cells #[.int .u8 (c0.toNat : Int), .int .u8 (c1.toNat : Int)] 5)).heap.size := by simp
      by_cases h2 : m < 256
      ·have HL := hide (show lenB m = [129, c1] by rw [lenB, if_neg h1, if_pos h2, hc1])
       have h1i : (128 : Int) ≤ (m : Int) := by omega
       have h2i : ¬ (256 : Int) ≤ (m : Int) := by omega
       have h3i : ¬ (65536 : Int) ≤ (m : Int) := by omega
       clear hc1 hbig h1 h2
       have hcv : (convert 43 9 (.slice (some ⟨(w.heap.size + 1), 0, none⟩) 3 3)).run Tryd.prog (World.alloc (w.alloc (.cells #[.int .u8 (c0.toNat : Int), .int .u8 (c1.toNat : Int)] 5)) (.cells #[.int .u8 (c0.toNat : Int), .int .u8 129, .int .u8 (c1.toNat : Int)] 5)) = .ok (.string ⟨([c0, 129, c1]).toArray⟩) (World.alloc (w.alloc (.cells #[.int .u8 (c0.toNat : Int), .int .u8 (c1.toNat : Int)] 5)) (.cells #[.int .u8 (c0.toNat : Int), .int .u8 129, .int .u8 (c1.toNat : Int)] 5)) := by
        have := conv_lit (w.alloc (.cells #[.int .u8 (c0.toNat : Int), .int .u8 (c1.toNat : Int)] 5)) #[.int .u8 (c0.toNat : Int), .int .u8 129, .int .u8 (c1.toNat : Int)] [c0, 129, c1] rfl (by simp [maxLen]) ⟨([c0, 129, c1]).toArray⟩ rfl
        first | exact this | (rw [World.size_alloc] at this; exact this)
       obtain ⟨yh, hyh⟩ : ∃ yh : ByteArray, yh = ⟨([c0, 129, c1]).toArray⟩ := ⟨_, rfl⟩
       have hyhs : yh.size = 3 := by rw [hyh]; rfl
       rw [← hyh] at hcv
       have hb9 : Below w.heap.size w (World.alloc (w.alloc (.cells #[.int .u8 (c0.toNat : Int), .int .u8 (c1.toNat : Int)] 5)) (.cells #[.int .u8 (c0.toNat : Int), .int .u8 129, .int .u8 (c1.toNat : Int)] 5)) := hb0.alloc (by omega) _
       go_upto_region 19 with fail
       obtain ⟨W9, hW9⟩ : ∃ W, W = World.alloc (w.alloc (.cells #[.int .u8 (c0.toNat : Int), .int .u8 (c1.toNat : Int)] 5)) (.cells #[.int .u8 (c0.toNat : Int), .int .u8 129, .int .u8 (c1.toNat : Int)] 5) := ⟨_, rfl⟩
       rw [← hW9] at hcv hb9 ⊢
       have hbs : ¬ 9223372036854775807 < yh.size + y.size := by omega
       obtain ⟨z, hz⟩ : ∃ z : ByteArray, z = yh ++ y := ⟨_, rfl⟩
       have hz2 : yh ++ y = z := hz.symm
       have HZ := hide (show z = ⟨(([c0, 129, c1]) ++ xs.flatten).toArray⟩ by rw [hz, hyh, HY.out]; exact ba_app _ _)
       have HB9 := hide hb9
       clear hW9 hz hyh hyhs hb9 hb0
       go_wp2_with fail
       go_ret2
       refine ⟨?_, HB9.out⟩
       rw [HR2.out, wrapR, HZ.out]
       simp only [wrapW, HM.out, HL.out, HC0.out]
       rfl
      ·obtain ⟨q8, hq8⟩ : ∃ q8, m / 256 = q8 := ⟨_, rfl⟩
       have um2 := u8_of q8
       rw [show (q8 : Int) = (m : Int) / 256 by omega] at um2
       obtain ⟨c2, hc2⟩ : ∃ c2, UInt8.ofNat q8 = c2 := ⟨_, rfl⟩
       rw [hc2] at um2
       have h1i : (128 : Int) ≤ (m : Int) := by omega
       have h2i : (256 : Int) ≤ (m : Int) := by omega
       by_cases h3 : m < 65536
       ·have HL := hide (show lenB m = [130, c2, c1] by rw [lenB, if_neg h1, if_neg h2, if_pos h3, hc1, hq8, hc2])
        have h3i : ¬ (65536 : Int) ≤ (m : Int) := by omega
        clear hc1 hc2 hq8 hbig h1 h2 h3
        have hcv : (convert 43 9 (.slice (some ⟨(w.heap.size + 1), 0, none⟩) 4 4)).run Tryd.prog (World.alloc (w.alloc (.cells #[.int .u8 (c0.toNat : Int), .int .u8 (c1.toNat : Int)] 5)) (.cells #[.int .u8 (c0.toNat : Int), .int .u8 130, .int .u8 (c2.toNat : Int), .int .u8 (c1.toNat : Int)] 5)) = .ok (.string ⟨([c0, 130, c2, c1]).toArray⟩) (World.alloc (w.alloc (.cells #[.int .u8 (c0.toNat : Int), .int .u8 (c1.toNat : Int)] 5)) (.cells #[.int .u8 (c0.toNat : Int), .int .u8 130, .int .u8 (c2.toNat : Int), .int .u8 (c1.toNat : Int)] 5)) := by
         have := conv_lit (w.alloc (.cells #[.int .u8 (c0.toNat : Int), .int .u8 (c1.toNat : Int)] 5)) #[.int .u8 (c0.toNat : Int), .int .u8 130, .int .u8 (c2.toNat : Int), .int .u8 (c1.toNat : Int)] [c0, 130, c2, c1] rfl (by simp [maxLen]) ⟨([c0, 130, c2, c1]).toArray⟩ rfl
         first | exact this | (rw [World.size_alloc] at this; exact this)
        obtain ⟨yh, hyh⟩ : ∃ yh : ByteArray, yh = ⟨([c0, 130, c2, c1]).toArray⟩ := ⟨_, rfl⟩
        have hyhs : yh.size = 4 := by rw [hyh]; rfl
        rw [← hyh] at hcv
        have hb9 : Below w.heap.size w (World.alloc (w.alloc (.cells #[.int .u8 (c0.toNat : Int), .int .u8 (c1.toNat : Int)] 5)) (.cells #[.int .u8 (c0.toNat : Int), .int .u8 130, .int .u8 (c2.toNat : Int), .int .u8 (c1.toNat : Int)] 5)) := hb0.alloc (by omega) _
        go_upto_region 19 with fail
        obtain ⟨W9, hW9⟩ : ∃ W, W = World.alloc (w.alloc (.cells #[.int .u8 (c0.toNat : Int), .int .u8 (c1.toNat : Int)] 5)) (.cells #[.int .u8 (c0.toNat : Int), .int .u8 130, .int .u8 (c2.toNat : Int), .int .u8 (c1.toNat : Int)] 5) := ⟨_, rfl⟩
        rw [← hW9] at hcv hb9 ⊢
        have hbs : ¬ 9223372036854775807 < yh.size + y.size := by omega
        obtain ⟨z, hz⟩ : ∃ z : ByteArray, z = yh ++ y := ⟨_, rfl⟩
        have hz2 : yh ++ y = z := hz.symm
        have HZ := hide (show z = ⟨(([c0, 130, c2, c1]) ++ xs.flatten).toArray⟩ by rw [hz, hyh, HY.out]; exact ba_app _ _)
        have HB9 := hide hb9
        clear hW9 hz hyh hyhs hb9 hb0
        go_wp2_with fail
        go_ret2
        refine ⟨?_, HB9.out⟩
        rw [HR2.out, wrapR, HZ.out]
        simp only [wrapW, HM.out, HL.out, HC0.out]
        rfl
       ·obtain ⟨q16, hq16⟩ : ∃ q16, m / 65536 = q16 := ⟨_, rfl⟩
        have um3 := u8_of q16
        rw [show (q16 : Int) = (m : Int) / 65536 by omega] at um3
        obtain ⟨c3, hc3⟩ : ∃ c3, UInt8.ofNat q16 = c3 := ⟨_, rfl⟩
        rw [hc3] at um3
        have HL := hide (show lenB m = [131, c3, c2, c1] by rw [lenB, if_neg h1, if_neg h2, if_neg h3, hc1, hq8, hq16, hc2, hc3])
        have h3i : (65536 : Int) ≤ (m : Int) := by omega
        clear hc1 hc2 hc3 hq8 hq16 hbig h1 h2 h3
        have hcv : (convert 43 9 (.slice (some ⟨(w.heap.size + 1), 0, none⟩) 5 5)).run Tryd.prog (World.alloc (w.alloc (.cells #[.int .u8 (c0.toNat : Int), .int .u8 (c1.toNat : Int)] 5)) (.cells #[.int .u8 (c0.toNat : Int), .int .u8 131, .int .u8 (c3.toNat : Int), .int .u8 (c2.toNat : Int), .int .u8 (c1.toNat : Int)] 5)) = .ok (.string ⟨([c0, 131, c3, c2, c1]).toArray⟩) (World.alloc (w.alloc (.cells #[.int .u8 (c0.toNat : Int), .int .u8 (c1.toNat : Int)] 5)) (.cells #[.int .u8 (c0.toNat : Int), .int .u8 131, .int .u8 (c3.toNat : Int), .int .u8 (c2.toNat : Int), .int .u8 (c1.toNat : Int)] 5)) := by
         have := conv_lit (w.alloc (.cells #[.int .u8 (c0.toNat : Int), .int .u8 (c1.toNat : Int)] 5)) #[.int .u8 (c0.toNat : Int), .int .u8 131, .int .u8 (c3.toNat : Int), .int .u8 (c2.toNat : Int), .int .u8 (c1.toNat : Int)] [c0, 131, c3, c2, c1] rfl (by simp [maxLen]) ⟨([c0, 131, c3, c2, c1]).toArray⟩ rfl
         first | exact this | (rw [World.size_alloc] at this; exact this)
        obtain ⟨yh, hyh⟩ : ∃ yh : ByteArray, yh = ⟨([c0, 131, c3, c2, c1]).toArray⟩ := ⟨_, rfl⟩
        have hyhs : yh.size = 5 := by rw [hyh]; rfl
        rw [← hyh] at hcv
        have hb9 : Below w.heap.size w (World.alloc (w.alloc (.cells #[.int .u8 (c0.toNat : Int), .int .u8 (c1.toNat : Int)] 5)) (.cells #[.int .u8 (c0.toNat : Int), .int .u8 131, .int .u8 (c3.toNat : Int), .int .u8 (c2.toNat : Int), .int .u8 (c1.toNat : Int)] 5)) := hb0.alloc (by omega) _
        go_upto_region 19 with fail
        obtain ⟨W9, hW9⟩ : ∃ W, W = World.alloc (w.alloc (.cells #[.int .u8 (c0.toNat : Int), .int .u8 (c1.toNat : Int)] 5)) (.cells #[.int .u8 (c0.toNat : Int), .int .u8 131, .int .u8 (c3.toNat : Int), .int .u8 (c2.toNat : Int), .int .u8 (c1.toNat : Int)] 5) := ⟨_, rfl⟩
        rw [← hW9] at hcv hb9 ⊢
        have hbs : ¬ 9223372036854775807 < yh.size + y.size := by omega
        obtain ⟨z, hz⟩ : ∃ z : ByteArray, z = yh ++ y := ⟨_, rfl⟩
        have hz2 : yh ++ y = z := hz.symm
        have HZ := hide (show z = ⟨(([c0, 131, c3, c2, c1]) ++ xs.flatten).toArray⟩ by rw [hz, hyh, HY.out]; exact ba_app _ _)
        have HB9 := hide hb9
        clear hW9 hz hyh hyhs hb9 hb0
        go_wp2_with fail
        go_ret2
        refine ⟨?_, HB9.out⟩
        rw [HR2.out, wrapR, HZ.out]
        simp only [wrapW, HM.out, HL.out, HC0.out]
        rfl
end Go.Proofs.YtmgnihmjjijdoaaDoor
namespace Go.Proofs.YtmgnihmjjijdoaaDoor
open Go.RowKit
theorem Own.lit {α : Type} {R : Rep α} {e : TypeId} {w : World} {base : Nat} (hbase : base ≤ w.heap.size) (x : α) (v : Value) (h : ∀ w', R w' No x [v]) :
    Own R 1 e (w.alloc (.cells #[v] e)) base No (.slice (some ⟨w.heap.size, 0, none⟩) 1 1) [x] := by
  refine ⟨[v], ⟨rfl, .inr ⟨w.heap.size, 1, #[v], rfl, hbase, heap_alloc_new w _, Nat.le_refl _, by simp [maxLen], rfl, rfl⟩⟩, fun g _ hg => hg.elim, fun i y hy => ?_⟩
  match i, hy with
  | 0, hy =>
    simp at hy; subst hy
    exact ⟨[v], h _, fun j u hu => by simpa using hu⟩
theorem Own.litNat {e : TypeId} {w : World} {base : Nat} (hbase : base ≤ w.heap.size) (n : Nat) : Own RNat 1 e (w.alloc (.cells #[.int .i64 (n : Int)] e)) base No (.slice (some ⟨w.heap.size, 0, none⟩) 1 1) [n] :=
 Own.lit hbase n _ fun _ => rfl
theorem Own.litByte {e : TypeId} {w : World} {base : Nat} (hbase : base ≤ w.heap.size) (c : UInt8) : Own RByte 1 e (w.alloc (.cells #[.int .u8 (c.toNat : Int)] e)) base No (.slice (some ⟨w.heap.size, 0, none⟩) 1 1) [c] :=
 Own.lit hbase c _ fun _ => rfl
theorem Own.bytes {e : TypeId} {w : World} {base : Nat} {S : Nat → Prop} {v : Value} {l : List UInt8} (h : Own RByte 1 e w base S v l) (h0 : 0 < l.length) :
  ∃ g cap, v = .slice (some ⟨g, 0, none⟩) l.length cap ∧ base ≤ g ∧ g < w.heap.size ∧ l.length ≤ cap ∧ cap ≤ maxLen ∧ BytesAt w e g l := by
 obtain ⟨xs, ⟨hl, h1⟩, h2, h3⟩ := h
 rcases h1 with ⟨_, hn⟩ | ⟨g, cap, cur, hv, hb, hg, hnc, hcm, hsz, htk⟩
 ·omega
 ·refine ⟨g, cap, hv, hb, (Array.getElem?_eq_some_iff.1 hg).1, hnc, hcm, cur, (0, 0), hg, by omega, fun i hi => ?_, fun i _ => by simp [World.frozen?, hg]⟩
  obtain ⟨ys, hr, hc⟩ := h3 i l[i] (List.getElem?_eq_getElem hi)
  have hr' : ys = byteC l[i] := hr
  subst hr'
  have h4 := hc 0 _ rfl
  rw [← htk, List.getElem?_take] at h4
  split at h4
  ·simpa using h4
  ·cases h4
theorem Own.nats {e : TypeId} {w : World} {base : Nat} {S : Nat → Prop} {v : Value} {l : List Nat} (h : Own RNat 1 e w base S v l) (h0 : 0 < l.length) :
  ∃ g cap, v = .slice (some ⟨g, 0, none⟩) l.length cap ∧ base ≤ g ∧ g < w.heap.size ∧ l.length ≤ cap ∧ cap ≤ maxLen ∧ NatsAt w g l := by
 obtain ⟨g, cap, hv, hb, hg, hnc, hcm, _⟩ := h.natAt h0
 refine ⟨g, cap, hv, hb, hg, hnc, hcm, fun i hi => ?_⟩
 obtain ⟨g', cap', hv', _, _, _, _, hc⟩ := h.natAt hi
 rw [hv] at hv'
 cases hv'
 exact hc
def b128 (n : Nat) : List UInt8 := if _h : n < 128 then [UInt8.ofNat n] else b128 (n / 128) ++ [UInt8.ofNat (n % 128)]
termination_by n
decreasing_by omega
theorem b128_small {n : Nat} (h : n < 128) : b128 n = [UInt8.ofNat n] := by rw [b128, dif_pos h]
theorem b128_big {n : Nat} (h : ¬ n < 128) : b128 n = b128 (n / 128) ++ [UInt8.ofNat (n % 128)] := by rw [b128, dif_neg h]
def topB (c : UInt8) : UInt8 := UInt8.ofNat (c.toNat + 128)
theorem topB_int (c : UInt8) (h : c.toNat < 128) : (c.toNat : Int) + 128 = ((topB c).toNat : Int) := by
 rw [topB, ofNat_byte _ (by omega)]; omega
theorem toNat_ofNat_lt (n : Nat) (h : n < 256) : (UInt8.ofNat n).toNat = n := by have := ofNat_byte n h; omega
theorem b128_lt : ∀ m : Nat, ∀ c ∈ b128 m, c.toNat < 128 := by
  intro m
  induction m using Nat.strongRecOn with
  | ind m ih =>
    intro c hc
    by_cases h : m < 128
    · rw [b128_small h] at hc
      simp at hc; subst hc
      rw [toNat_ofNat_lt _ (by omega)]; omega
    · rw [b128_big h] at hc
      rcases List.mem_append.1 hc with hc | hc
      · exact ih (m / 128) (by omega) c hc
      · simp at hc; subst hc
        rw [toNat_ofNat_lt _ (by omega)]; omega
theorem b128_top : ∀ m : Nat, 1 ≤ m → (b128 m).map topB = hiL m := by
  intro m
  induction m using Nat.strongRecOn with
  | ind m ih =>
    intro h1
    rw [hiL_pos h1]
    by_cases h : m < 128
    · rw [b128_small h, show m / 128 = 0 by omega, hiL_zero]
      simp only [List.map_cons, List.map_nil, List.nil_append, topB]
      rw [toNat_ofNat_lt _ (by omega), show m % 128 = m by omega]
    · rw [b128_big h, List.map_append, ih (m / 128) (by omega) (by omega)]
      simp only [List.map_cons, List.map_nil, topB]
      rw [toNat_ofNat_lt _ (by omega)]
theorem putL_b128 (n : Nat) : ∃ a z, b128 n = a ++ [z] ∧ putL n = a.map topB ++ [z] := by
 by_cases h : n < 128
 ·exact ⟨[], _, b128_small h, by rw [putL, show n / 128 = 0 by omega, hiL_zero, show n % 128 = n by omega]; rfl⟩
 ·exact ⟨b128 (n / 128), _, b128_big h, by rw [putL, b128_top _ (by omega)]⟩
def halfD (a : List UInt8) (z : UInt8) (j : Nat) : List UInt8 := (a.take j).map topB ++ (a.drop j ++ [z])
theorem halfD_len (a : List UInt8) (z : UInt8) (j : Nat) (h : j ≤ a.length) : (halfD a z j).length = a.length + 1 := by
 simp [halfD]; omega
theorem halfD_at (a : List UInt8) (z : UInt8) (j : Nat) (h : j < a.length) : (halfD a z j)[j]'(by rw [halfD_len a z j (by omega)]; omega) = a[j] := by
 simp only [halfD]
 rw [List.getElem_append_right (by simp; omega)]
 simp only [List.length_map, List.length_take, Nat.min_eq_left (show j ≤ a.length by omega), Nat.sub_self]
 rw [List.getElem_append_left (by simp; omega)]
 simp
theorem halfD_set (a : List UInt8) (z : UInt8) (j : Nat) (h : j < a.length) : (halfD a z j).set j (topB a[j]) = halfD a z (j + 1) := by
 simp only [halfD]
 rw [List.set_append_right _ _ (by simp; omega), List.take_succ_eq_append_getElem h, List.drop_eq_getElem_cons h]
 simp only [List.length_map, List.length_take, Nat.min_eq_left (show j ≤ a.length by omega), Nat.sub_self, List.cons_append, List.set_cons_zero, List.map_append, List.map_cons, List.map_nil, List.append_assoc, List.nil_append]
theorem encL_flat (l : List Nat) (a b : Nat) (ha : l.getD 0 0 = a) (hb : l.getD 1 0 = b) : encL l = ((40 * a + b) :: l.drop 2).flatMap putL := by
 rw [encL, ha, hb, List.flatMap_cons]
set_option maxRecDepth 100000 in
set_option maxHeartbeats 4000000 in
theorem rEncode_any (s : ByteArray) (hs : s.size ≤ 1000000) (w : World) :
    Calls Tryd.prog 48 #[.string s] w fun e w' => e = .returned (encR (encP s.data.toList)) ∧ Below w.heap.size w w' := by
  obtain ⟨r, hr⟩ : ∃ r, arcsP s.data.toList = r := ⟨_, rfl⟩
  rw [encP, hr]
  have HR := hide hr
  clear hr
  go_enter Tryd.func48, Tryd.ntmps48
  go_wp2_with fail
  refine (rarcs_p s hs _).mono ?_
  rw [HR.out]
  rintro e w1 ⟨hb, h⟩
  cases r with
  | none =>
    subst h
    go_wp2_with fail
    go_ret2
    exact ⟨rfl, hb⟩
  | some l =>
    obtain ⟨g, c, rfl, hg, hsl⟩ := h
    obtain ⟨h2, h12, hle, hroot⟩ := arcsP_some HR.out
    obtain ⟨-, hlc, -⟩ := hsl.len_
    have hcell := hsl.nats
    have hgl : g < w1.heap.size := hsl.nats_lt (by omega)
    have h0 := hcell 0 (by omega)
    have h1 := hcell 1 (by omega)
    obtain ⟨a, ha⟩ : ∃ a, l[0]'(by omega) = a := ⟨_, rfl⟩
    obtain ⟨b, hbb⟩ : ∃ b, l[1]'(by omega) = b := ⟨_, rfl⟩
    rw [ha] at h0
    rw [hbb] at h1
    have e0 : l.getD 0 0 = a := by rw [← ha]; simp [List.getD, List.getElem?_eq_getElem (show 0 < l.length by omega)]
    have e1 : l.getD 1 0 = b := by rw [← hbb]; simp [List.getD, List.getElem?_eq_getElem (show 1 < l.length by omega)]
    have HE := hide (encL_flat l a b e0 e1)
    rw [e0, e1] at hroot
    have ha2 := rootB_le hroot
    have hb2 : b ≤ 2147483647 := by rw [← hbb]; exact hle _ (List.getElem_mem _)
    obtain ⟨L2, hL2⟩ : ∃ L2, L2 = l.drop 2 := ⟨_, rfl⟩
    have hL2l : L2.length = l.length - 2 := by rw [hL2]; simp
    have hys : ∀ (i : Nat) (y : Nat), L2[i]? = some y → w1.cell? ⟨g, 2 + i, none⟩ = some (.int .i64 (y : Int)) := fun i y hy => by
      rw [hL2, List.getElem?_drop] at hy
      obtain ⟨hi, rfl⟩ := List.getElem?_eq_some_iff.1 hy
      exact hcell _ hi
    have HLE := hide (show ∀ n ∈ L2, n ≤ 2147483647 from fun n hn => hle n (by rw [hL2] at hn; exact List.mem_of_mem_drop hn))
    rw [← hL2] at HE
    have HYS := hide hys
    have HB := hide hb
    clear e0 e1 hroot ha hbb hle hsl hcell hb hL2 hys
    obtain ⟨v0, hv0⟩ : ∃ v0, 40 * a + b = v0 := ⟨_, rfl⟩
    rw [hv0] at HE
    have hv0b : v0 ≤ 4294967295 := by omega
    have hi0 : (0 : Int) < (l.length : Int) := by omega
    have hi1 : (1 : Int) < (l.length : Int) := by omega
    have hw1 : IntKind.i64.wrap (40 * (a : Int)) = 40 * (a : Int) := IntWalk.i64_in _ (by omega)
    have hw2 : IntKind.i64.wrap (40 * (a : Int) + (b : Int)) = (v0 : Int) := by rw [IntWalk.i64_in _ (by omega)]; omega
    have hix0 : (0 : Nat) < l.length := by omega
    have hix1 : (1 : Nat) < l.length := by omega
    have hI2 : (2 : Int) ≤ (l.length : Int) := by omega
    have hI1 : (l.length : Int) ≤ (l.length : Int) := by omega
    have hI3 : (l.length : Int) ≤ (c : Int) := by omega
    have hI4 : (0 : Int) ≤ 2 := by omega
    clear hv0
    go_wp2_with fail
    obtain ⟨A2, hA2, hys2⟩ : ∃ A2 : Addr, (if c = 2 then some (⟨g, 0, none⟩ : Addr) else some ⟨g, 2, none⟩) = some A2 ∧ ∀ (i : Nat) (y : Nat), L2[i]? = some y → w1.cell? (A2.add i) = some (.int .i64 (y : Int)) ∧ (A2.add i).block < w1.heap.size := by
      by_cases hc2 : c = 2
      · refine ⟨_, if_pos hc2, fun i y hy => ?_⟩
        have := (List.getElem?_eq_some_iff.1 hy).1
        omega
      · refine ⟨_, if_neg hc2, fun i y hy => ⟨?_, by rw [Addr.add_lit]; exact hgl⟩⟩
        rw [Addr.add_lit]
        exact HYS.out i y hy
    have HY2 := hide hys2
    clear hys2
    have hsrc : ∀ W, Below w1.heap.size w1 W → ∀ i y, L2[i]? = some y → ∃ cs, RNat W No y cs ∧ ∀ j u, cs[j]? = some u → W.cell? (A2.add (i * 1 + j)) = some u := fun W hW i y hy => by
      obtain ⟨q1, q2⟩ := HY2.out i y hy
      refine ⟨_, rfl, fun j u hu => ?_⟩
      have hj : j = 0 := by have := (List.getElem?_eq_some_iff.1 hu).1; simp [natC] at this; omega
      subst hj
      simp [natC] at hu; subst hu
      rw [Nat.mul_one, Nat.add_zero, ← q1]
      exact hW.cell q2
    have HSRC := hide hsrc
    have HL2 := hide hL2l
    clear hsrc
    go_region_law (refine step_app RNat.ok _ ?_ (.tmp 26) (.tmp 28) 24 ?_ w1.heap.size 3 (.int .i64 0) 8 Tryd.underlying24 info_int rfl (by decide) No (.slice (some ⟨w1.heap.size, 0, none⟩) 1 1) [v0] ?_ ?_ A2 (l.length - 2) (c - 2) L2 ?_ HL2.out.symm ?_ (no_lt _) ?_ ?_ ?_ ?_; rfl; rfl; rfl; exact (Own.litNat (Nat.le_refl _) v0).drew RNat.ok; rfl; exact HSRC.out _ (((Below.refl _ _).alloc (Nat.le_refl _) _).drew); (simp; omega); (simp [maxLen]; omega); simp; intro v4 w4 hown4 hg4 hb4 hat4; have hsz4 := hb4.size; simp at hsz4)
    all_goals
      clear hw1 hw2 hi0 hi1 hix0 hix1 hI1 hI2 hI3 hI4 h0 h1 hA2 hL2l
      have HB4 := hide (HB.out.trans ((((Below.refl w1.heap.size w1).alloc (Nat.le_refl _) _).drew.trans (hb4.mono (by simp))).mono HB.out.size))
      rw [List.singleton_append] at hown4
      obtain ⟨LL, hLL⟩ : ∃ LL, LL = v0 :: L2 := ⟨_, rfl⟩
      rw [← hLL] at hown4 HE
      have hLLl : LL.length ≤ 12 := by rw [hLL, List.length_cons, HL2.out]; omega
      have hLL0 : 0 < LL.length := by rw [hLL]; simp
      have HLL := hide (show ∀ n ∈ LL, n ≤ 4294967295 from fun n hn => by
        rw [hLL] at hn
        rcases List.mem_cons.1 hn with rfl | hn
        · exact hv0b
        · have := HLE.out n hn; omega)
      obtain ⟨g4, c4, hv4, hbg4, hgl4, hgc4, hgm4, hnat4⟩ := hown4.nats hLL0
      subst hv4
      have HN4 := hide hnat4
      obtain ⟨bout, hbout⟩ : ∃ bout, bout = w4.heap.size := ⟨_, rfl⟩
      have hgl4' : g4 < bout := by omega
      have HBO := hide hbout
      clear hLL hown4 hg4 hb4 hat4 hsz4 hnat4 hv0b hgm4 hbout hbg4 hgl4
      go_wp2_with fail
      go_loopw [6, 32] (fun v i wr => ∃ (k : Nat) (out : List UInt8), k ≤ LL.length ∧ i = .int .i64 k ∧ Own RByte 1 5 wr bout No v out ∧ Below bout w4 wr ∧ bout ≤ wr.heap.size ∧ out.length ≤ 6 * k ∧ Hid (encL l = out ++ (LL.drop k).flatMap putL)) (fun _ i _ => LL.length - (intOf i).toNat)
      case atStart => exact ⟨0, [], by omega, rfl, Own.nil _ _ _ _ _ _, Below.refl _ _, by rw [HBO.out]; exact Nat.le_refl _, by simp, HE⟩
      case round =>
        obtain ⟨k, out, hk, rfl, hown, hb, hgs, hol, HO⟩ := hrel
        by_cases hlt : k < LL.length
        · have hcell : wr.cell? ⟨g4, k, none⟩ = some (.int .i64 (LL[k] : Int)) := (hb.cell hgl4').trans (HN4.out k hlt)
          have hd := List.drop_eq_getElem_cons hlt
          have hxb := HLL.out LL[k] (List.getElem_mem hlt)
          obtain ⟨V, hV⟩ : ∃ V, LL[k] = V := ⟨_, rfl⟩
          rw [hV] at hcell hd hxb
          have HO2 := hide (show encL l = out ++ (putL V ++ (LL.drop (k + 1)).flatMap putL) by rw [HO.out, hd, List.flatMap_cons])
          have hplV := putL_len V hxb
          obtain ⟨A, cp, hvv⟩ := (hown.sl RByte.ok).shape
          subst hvv
          clear hd hV
          obtain ⟨wo, rfl⟩ : ∃ wo : World, wo = wr := ⟨_, rfl⟩
          obtain ⟨bd, hbd, HBD⟩ : ∃ bd, bd ≤ wo.heap.size ∧ Hid (bd = wo.heap.size) := ⟨_, Nat.le_refl _, rfl⟩
          go_wp2_with fail
          go_loopw [8, 9] (fun x v wx => ∃ (n : Nat) (ds : List UInt8), n ≤ V ∧ x = .int .i64 n ∧ Own RByte 1 5 wx bd No v ds ∧ Below bd wo wx ∧ bd ≤ wx.heap.size ∧ Hid (b128 V = b128 n ++ ds)) (fun x _ _ => (intOf x).toNat)
          case atStart => exact ⟨V, [], by omega, rfl, Own.nil _ _ _ _ _ _, Below.refl _ _, hbd, hide (by simp)⟩
          case round =>
            obtain ⟨n, ds, hn, rfl, hown2, hb2, hgs2, HEQ⟩ := hrel
            have hdl : ds.length ≤ 6 := by
              obtain ⟨a', z', h1, h2⟩ := putL_b128 V
              have := congrArg List.length HEQ.out
              rw [h1] at this
              rw [h2] at hplV
              simp at this hplV
              omega
            obtain ⟨c', hcc⟩ : ∃ c', UInt8.ofNat (n % 128) = c' := ⟨_, rfl⟩
            have hcv : (n : Int) % 128 = (c'.toNat : Int) := by rw [← hcc, ofNat_byte _ (by omega)]; omega
            have hcl := byte_lt c'
            have hdiv : (n : Int) / 128 = ((n / 128 : Nat) : Int) := by omega
            obtain ⟨n', hn'⟩ : ∃ n', n / 128 = n' := ⟨_, rfl⟩
            rw [hn'] at hdiv
            have hsrc := hown2.src.grow RByte.ok (no_lt _) ((Below.refl _ _).alloc (Nat.le_refl _) (.cells #[.int .u8 (c'.toNat : Int)] 5))
            by_cases hsm : n < 128
            · have hz : ((n' : Int) == 0) = true := by simp; omega
              have HEQ2 := hide (show b128 V = c' :: ds by rw [HEQ.out, b128_small hsm, ← hcc, show n % 128 = n by omega]; rfl)
              obtain ⟨q, z, hq1, hq2⟩ := putL_b128 V
              have hql : q.length = ds.length := by have := hq1.symm.trans HEQ2.out; have := congrArg List.length this; simp at this; omega
              have HQ1 := hide (show c' :: ds = halfD q z 0 by rw [← HEQ2.out, hq1]; rfl)
              have HQ2 := hide (show putL V = halfD q z q.length by rw [hq2]; simp [halfD])
              have HQ3 := hide (show ∀ c ∈ q, c.toNat < 128 from fun c hc => b128_lt V c (by rw [hq1]; simp [hc]))
              clear hcc hn' HEQ hq1 hq2
              go_wp2_with (at_builtin; refine wpList_apps RByte.ok _ rfl (.tmp 39) (.tmp 40) 43 rfl bd 5 (.int .u8 0) 1 Tryd.underlying43 info_u8o rfl (by decide) No _ [c'] rfl (Own.litByte hgs2 c') _ ds rfl hsrc (no_lt _) (by simp; omega) (by simp [maxLen]; omega) (by simp; omega) ?_; intro v2 w2 hown3 hg3 hb3 hat3; have hsz2 := hb3.size; simp at hsz2)
              rw [List.singleton_append, HQ1.out] at hown3
              have hhl := halfD_len q z 0 (by omega)
              obtain ⟨gd, cd, hvd, hbd3, hgd3, hcd3, hcm3, hby⟩ := hown3.bytes (by omega)
              rw [hhl] at hvd hcd3
              subst hvd
              have hbX : Below bd wo w2 := (below_alloc hb2 hgs2 _).trans hb3
              have HBX := hide hbX
              have hgs3 : bd ≤ w2.heap.size := by omega
              clear hown3 hg3 hb3 hat3 hsz2 hb2 hown2 hhl hcv hdiv hz hbX hsrc
              go_wp2_with fail
              go_loopw [10] (fun i wy => ∃ j : Nat, j ≤ q.length ∧ i = .int .i64 j ∧ BytesAt wy 5 gd (halfD q z j) ∧ Below bd w2 wy ∧ bd ≤ wy.heap.size) (fun i _ => q.length - (intOf i).toNat)
              case atStart => exact ⟨0, by omega, rfl, hby, Below.refl _ _, hgs3⟩
              case round =>
                obtain ⟨j, hj, rfl, hby, hbj, hgsj⟩ := hrel
                by_cases hjl : j < q.length
                · have hhl := halfD_len q z j (by omega)
                  have hcj := hby.cell (i := j) (by omega)
                  have hfj := hby.free (i := j) (by omega)
                  rw [halfD_at q z j hjl] at hcj
                  have hset := hby.set_ (i := j) (by omega) (topB q[j])
                  rw [halfD_set q z j hjl] at hset
                  have HSET := hide hset
                  have htop := topB_int q[j] (HQ3.out _ (List.getElem_mem hjl))
                  have hx128 := HQ3.out _ (List.getElem_mem hjl)
                  obtain ⟨x, hx⟩ : ∃ x, q[j] = x := ⟨_, rfl⟩
                  rw [hx] at hcj htop HSET hx128
                  have hi1 : (j : Int) + 1 < ((q.length + 1 : Nat) : Int) := by omega
                  have hi2 : (j : Int) < ((q.length + 1 : Nat) : Int) := by omega
                  have hi3 : (0 : Int) ≤ (j : Int) := by omega
                  clear hhl hset hx hby
                  go_wp2_with fail
                  go_roundw
                  case rel => exact ⟨j + 1, by omega, by go_num, HSET.out, hbj.setCell hbd3 _, by simp; omega⟩
                  case measure => simp [intOf]; omega
                · obtain rfl : j = q.length := by omega
                  have hbY := HBX.out.trans hbj
                  have hownY := hown.below RByte.ok (no_lt _) (HBD.out ▸ hbY)
                  have hsz := hbY.size
                  rw [← HQ2.out] at hby
                  have hpl6 : (putL V).length = q.length + 1 := by rw [HQ2.out, halfD_len q z q.length (by omega)]
                  have HPL6 := hide hpl6
                  have hpl7 : (putL V).length ≤ 6 := by omega
                  have hbb : bout ≤ bd := by have := HBD.out; omega
                  have hgsY : bout ≤ (World.heap (wr)).size := by omega
                  clear hpl6
                  go_wp2_with (at_builtin; refine wpList_apps RByte.ok _ rfl (.tmp 59) (.tmp 60) 43 rfl bout 5 (.int .u8 0) 1 Tryd.underlying43 info_u8o rfl (by decide) No _ out rfl hownY _ (putL V) rfl (hby.src No HPL6.out.symm) (no_lt _) (by omega) (by unfold maxLen; omega) (by omega) ?_; intro v5 w5 hown5 hg5 hb5 hat5; have hsz5 := hb5.size)
                  go_roundw
                  case rel => exact ⟨k + 1, out ++ putL V, by omega, by go_num, hown5, (hb.trans (hbY.mono (by omega))).trans hb5, by omega, by simp; omega, hide (by rw [HO2.out, List.append_assoc])⟩
                  case measure => simp [intOf]; omega
            · have hz : ((n' : Int) == 0) = false := by simp; omega
              have HEQ2 := hide (show b128 V = b128 n' ++ (c' :: ds) by rw [HEQ.out, b128_big hsm, ← hcc, hn']; simp)
              have hlt' : n' < n := by omega
              clear hcc hn' HEQ hplV
              go_wp2_with (at_builtin; refine wpList_apps RByte.ok _ rfl (.tmp 39) (.tmp 40) 43 rfl bd 5 (.int .u8 0) 1 Tryd.underlying43 info_u8o rfl (by decide) No _ [c'] rfl (Own.litByte hgs2 c') _ ds rfl hsrc (no_lt _) (by simp; omega) (by simp [maxLen]; omega) (by simp; omega) ?_; intro v2 w2 hown3 hg3 hb3 hat3; have hsz2 := hb3.size; simp at hsz2)
              go_roundw
              case rel => exact ⟨n', c' :: ds, by omega, by go_num, hown3, (below_alloc hb2 hgs2 _).trans hb3, by omega, HEQ2⟩
              case measure => simp [intOf]; omega
        · have HO2 := hide (show encL l = out by rw [HO.out, List.drop_of_length_le (by omega)]; simp)
          have hconv := run_bts_str (P := Tryd.prog) wr 43 9 5 Tryd.underlying43 Tryd.underlying5 Tryd.underlying9 _ _ _ (hown.sl RByte.ok)
          go_wp2_with fail
          go_ret2
          exact ⟨ret_encS (by rw [← HO2.out]; rfl), HB4.out.trans (hb.mono (by have := HB4.out.size; have := HBO.out; omega))⟩
end Go.Proofs.YtmgnihmjjijdoaaDoor
namespace Go.Proofs.YtmgnihmjjijdoaaDoor
open Go.RowKit
theorem sl_pu {α : Type} {f : α → List Value} {size : Nat} (hf : ∀ x, (f x).length = size) (w : World) (C : Array Value) (t : TypeId) (l : List α) (hC : C.toList = l.flatMap f) (hl : l.length ≤ maxLen) :
  Sl (Pu f) size (w.alloc (.cells C t)) (Lt (w.alloc (.cells C t)).heap.size) l [.slice (some ⟨w.heap.size, 0, none⟩) l.length l.length] := by
 refine ⟨_, _, rfl, Nat.le_refl _, hl, fun _ => ⟨w.heap.size, 0, rfl, by show _ < _; simp, fun i x hx => ?_⟩⟩
 obtain ⟨cs, h1, h2⟩ := news_pu hf w (Lt (w.alloc (.cells C t)).heap.size) C t l hC i x hx
 refine ⟨cs, h1, fun j u hu => ?_⟩
 have := h2 j u hu
 rw [Addr.add_lit] at this
 exact this
set_option maxHeartbeats 1000000 in
theorem rWrap7_any (t : Nat) (ht : t < 256) (xs : List (List UInt8)) (A : Option Addr) (c : Nat) (hx : xs.flatten.length ≤ 1000000000000) (w : World) (h : Sl RStr 1 w (Lt w.heap.size) xs [.slice A xs.length c]) :
  Calls Tryd.prog 21 #[.int .i64 (t : Int), .slice A xs.length c] w fun e w' => e = .returned (.string ⟨(wrapG t xs).1.toArray⟩) ∧ Below w.heap.size w w' := by
 have HS := hide h
 obtain ⟨r, hr⟩ : ∃ r, wrapG t xs = r := ⟨_, rfl⟩
 rw [hr]
 have HR := hide hr
 clear h hr
 go_enter Tryd.func21, Tryd.ntmps21
 go_wp2_with fail
 refine (rWrap_any t ht xs A c hx w HS.out).mono ?_
 rintro e w1 ⟨rfl, hb1⟩
 rw [HR.out, wrapR]
 go_wp2_with fail
 go_ret
 exact ⟨rfl, hb1⟩
theorem encP_len (s : List UInt8) : ((encP s).getD []).length ≤ 1000 := by
  cases h : validB s with
  | true =>
    obtain ⟨c, hc, hl⟩ := encP_valid h
    rw [hc]; exact hl
  | false =>
    have : encP s = none := by
      unfold validB at h
      unfold encP
      cases ha : arcsP s with
      | none => rfl
      | some l => rw [ha] at h; cases h
    rw [this]; simp
theorem encR_eq (o : Option (List UInt8)) : encR o = .tuple #[.string ⟨(o.getD []).toArray⟩, .int .i64 (if o.isSome then 0 else 11)] := rfl
set_option maxHeartbeats 1000000 in
theorem rOID_any (s : ByteArray) (hs : s.size ≤ 1000000) (w : World) :
  Calls Tryd.prog 36 #[.string s] w fun e w' => e = .returned (.string ⟨(idW s.data.toList).toArray⟩) ∧ Below w.heap.size w w' := by
 have hl := encP_len s.data.toList
 obtain ⟨y, hy⟩ : ∃ y : ByteArray, y = ⟨((encP s.data.toList).getD []).toArray⟩ := ⟨_, rfl⟩
 have HX := hide (show wrapG 6 [y.data.toList] = (idW s.data.toList, 0) by
  rw [hy, wrapG, if_neg (by decide), wrapF]
  simp only [List.flatten_cons, List.flatten_nil, List.append_nil]
  rw [if_neg (by omega)]
  rfl)
 have hyl : y.data.toList.length ≤ 1000 := by rw [hy]; exact hl
 have hE := encR_eq (encP s.data.toList)
 rw [← hy] at hE
 obtain ⟨k, hk⟩ : ∃ k : Int, (if (encP s.data.toList).isSome then 0 else 11) = k := ⟨_, rfl⟩
 rw [hk] at hE
 have HE := hide hE
 clear hl hE hk hy
 go_enter Tryd.func36, Tryd.ntmps36
 go_wp2_with fail
 refine (rEncode_any s hs w).mono ?_
 rintro e w1 ⟨rfl, hb1⟩
 rw [HE.out]
 have HB := hide hb1
 have hsl := sl_pu (f := strC) (size := 1) (fun _ => rfl) w1 #[.string y] 9 [y.data.toList] rfl (by simp [maxLen])
 have HSL := hide hsl
 clear hsl hb1
 go_wp2_with fail
 refine (rWrap7_any 6 (by omega) [y.data.toList] _ _ (by rw [List.flatten_cons, List.flatten_nil, List.append_nil]; omega) _ HSL.out).mono ?_
 rintro e w2 ⟨rfl, hb2⟩
 rw [HX.out]
 go_wp2_with fail
 go_ret
 exact ⟨rfl, (HB.out.alloc HB.out.size _).trans (hb2.mono (by have := HB.out.size; rw [World.size_alloc]; omega))⟩
end Go.Proofs.YtmgnihmjjijdoaaDoor
