/- Elements: what Wrap writes, and its walk. -/
import Derived.Test.YtahamclodagihaaGreatDoorTGTlvP
import Derived.Test.YtahamclodagihaaGreatDoorTGSplit
import Derived.Deep.RegionLaw
import Derived.Lib.Join
import Derived.Test.YtahamclodagihaaGreatDoorTGOidD
import Derived.Test.YtahamclodagihaaGreatDoorTGOidL
namespace Go.Proofs.YtahamclodagihaaGreatDoor
open Go.RowKit
def wrapR (r : List UInt8 × Int) : Value := .tuple #[.string ⟨r.1.toArray⟩, .int .i64 r.2]
theorem join_flat : ∀ xs : List (List UInt8), Lib.join xs [] = xs.flatten
  | [] => rfl
  | [p] => by simp [Lib.join, List.intercalate]
  | p :: q :: r => by
    have ih := join_flat (q :: r)
    rw [List.flatten_cons, ← ih]
    simp [Lib.join, List.intercalate]
theorem Join_flat (A : Option Addr) (xs : List (List UInt8)) (c : Nat) (w : World) (S : Nat → Prop) (hS : ∀ k, S k → k < w.heap.size) (h : Sl RStr 1 w S xs [.slice A xs.length c]) (hN : xs.length ≤ 1000000) (hlen : xs.flatten.length ≤ 140737488355328) :
  Calls Tryz.prog 66 #[.slice A xs.length c, .string ⟨#[]⟩] w fun e w' => e = .returned (.string ⟨xs.flatten.toArray⟩) ∧ Below w.heap.size w w' := by
 rcases Nat.eq_zero_or_pos xs.length with h0 | h0
 ·obtain rfl := List.eq_nil_of_length_eq_zero h0
  exact (Tryz.strings_Join_none A c ⟨#[]⟩ w).mono fun e w' ⟨he, hw⟩ => ⟨he, hw ▸ Below.refl _ _⟩
 ·obtain ⟨bk, o, _, hA, hb, _, _⟩ := h.at_ h0
  subst hA
  obtain ⟨-, hc, hm⟩ := h.len_
  have hmap : (xs.map fun (x : List UInt8) => (⟨x.toArray⟩ : ByteArray)).map (·.data.toList) = xs := by
   rw [List.map_map]
   exact (List.map_congr_left (fun x _ => rfl)).trans (List.map_id _)
  have hl : (xs.map fun (x : List UInt8) => (⟨x.toArray⟩ : ByteArray)).length = xs.length := List.length_map _
  have hj : Lib.join ((xs.map fun (x : List UInt8) => (⟨x.toArray⟩ : ByteArray)).map (·.data.toList)) (⟨#[]⟩ : ByteArray).data.toList = xs.flatten := by
   rw [hmap]; exact join_flat xs
  have := Tryz.strings_Join bk o c (xs.map fun (x : List UInt8) => (⟨x.toArray⟩ : ByteArray)) ⟨#[]⟩ w (fun j x hx => by
   rw [List.getElem?_map] at hx
   obtain ⟨y, hy, rfl⟩ := Option.map_eq_some_iff.1 hx
   obtain ⟨hi, rfl⟩ := List.getElem?_eq_some_iff.1 hy
   obtain ⟨b', o', zs, hv', _, hr', hh'⟩ := h.at_ hi
   cases hv'
   have e : zs = strC xs[j] := hr'
   subst e
   simpa using hh' 0 _ rfl) (hS _ hb) (by rw [hl]; omega) (by rw [hl]; exact hc) (by rw [hj]; exact hlen)
  rw [hl] at this
  refine this.mono fun e w' ⟨he, hw⟩ => ⟨?_, hw⟩
  rw [he, hj]
theorem u8_of (n : Nat) : IntKind.u8.wrap (n : Int) = ((UInt8.ofNat n).toNat : Int) := by
 rw [IntKind.wrap_u8', UInt8.toNat_ofNat']; omega
theorem flat_take_le (xs : List (List UInt8)) (k : Nat) : (xs.take k).flatten.length ≤ xs.flatten.length := by
 have := congrArg (fun l => (List.flatten l).length) (List.take_append_drop k xs)
 simp only [List.flatten_append, List.length_append] at this
 omega
theorem flat_take_succ (xs : List (List UInt8)) (k : Nat) (hk : k < xs.length) : (xs.take (k + 1)).flatten.length = (xs.take k).flatten.length + xs[k].length := by
 rw [List.take_succ_eq_append_getElem hk, List.flatten_append, List.length_append]; simp
theorem Sl.strAt {w : World} {S : Nat → Prop} {A : Option Addr} {n c : Nat} {l : List (List UInt8)} (h : Sl RStr 1 w S l [.slice A n c]) {i : Nat} (hi : i < l.length) :
  ∃ b off, A = some ⟨b, off, none⟩ ∧ S b ∧ w.cell? ⟨b, off + i, none⟩ = some (.string ⟨l[i].toArray⟩) := by
 obtain ⟨b, off, xs, hA, hb, hr, hc⟩ := h.at_ hi
 have e : xs = strC l[i] := hr
 subst e
 exact ⟨b, off, hA, hb, by simpa using hc 0 _ rfl⟩
theorem info_u8t : (Tryz.prog.info? 5).map (fun i => (i.zero, i.size, i.bytes)) = some (some (.int .u8 0), 1, 1) := by kernel_rfl
theorem own_head {e : TypeId} {w : World} {base : Nat} (hbase : base ≤ w.heap.size) (k : UInt8) : Own RByte 1 e (w.alloc (.cells #[.int .u8 (k.toNat : Int)] e)) base No (.slice (some ⟨w.heap.size, 0, none⟩) 1 1) [k] := by
  refine ⟨[.int .u8 (k.toNat : Int)], ⟨rfl, .inr ⟨w.heap.size, 1, #[.int .u8 (k.toNat : Int)], rfl, hbase, heap_alloc_new w _, Nat.le_refl _, by simp [maxLen], rfl, rfl⟩⟩, fun g _ hg => hg.elim, fun i y hy => ?_⟩
  match i, hy with
  | 0, hy =>
    simp at hy; subst hy
    exact ⟨[.int .u8 (k.toNat : Int)], rfl, fun j u hu => by simpa using hu⟩
theorem ba_mk (l : List UInt8) : (⟨l.toArray⟩ : ByteArray).size = l.length := by simp [ByteArray.size]
theorem ba_app (a b : List UInt8) : ((⟨a.toArray⟩ : ByteArray) ++ ⟨b.toArray⟩) = ⟨(a ++ b).toArray⟩ := by
 apply ByteArray.ext
 rw [ByteArray.data_append]
 simp
set_option maxRecDepth 100000 in
set_option maxHeartbeats 4000000 in
theorem Wrap_any (t : Nat) (ht : t < 256) (ht31 : t % 32 ≠ 31) (xs : List (List UInt8)) (A : Option Addr) (c : Nat) (hN : xs.length ≤ 1000000) (hx : ∀ x ∈ xs, x.length ≤ 1000000000) (w : World) (h : Sl RStr 1 w (Lt w.heap.size) xs [.slice A xs.length c]) :
  Calls Tryz.prog 55 #[.int .i64 (t : Int), .slice A xs.length c] w fun e w' => e = .returned (wrapR (wrapF t xs)) ∧ Below w.heap.size w w' := by
 have HS := hide h
 have HX := hide hx
 obtain ⟨r, hr⟩ : ∃ r, wrapF t xs = r := ⟨_, rfl⟩
 rw [hr]
 have HR := hide hr
 have b31 := and31 t ht
 have t31 : ((t : Int) % 32 == 31) = false := beq_false_of_ne (by omega)
 clear h hx hr
 go_enter Tryz.func55, Tryz.ntmps55
 go_wp2_with fail
 go_loopw [6, 23] (fun n i wr => ∃ k : Nat, k ≤ xs.length ∧ i = .int .i64 k ∧ n = .int .i64 ((xs.take k).flatten.length : Nat) ∧ (xs.take k).flatten.length ≤ 131072 ∧ w = wr) (fun _ i _ => xs.length - (intOf i).toNat)
 case atStart => exact ⟨0, Nat.zero_le _, rfl, rfl, Nat.zero_le _, rfl⟩
 case round =>
  obtain ⟨k, hk, rfl, rfl, hle, rfl⟩ := hrel
  by_cases hkl : k < xs.length
  ·obtain ⟨bk, o, hA, hb, hc⟩ := HS.out.strAt hkl
   subst hA
   have hlx := HX.out xs[k] (List.getElem_mem _)
   have hts := flat_take_succ xs k hkl
   have htl := flat_take_le xs (k + 1)
   obtain ⟨x, hxk⟩ : ∃ x, xs[k] = x := ⟨_, rfl⟩
   rw [hxk] at hc hlx hts
   obtain ⟨n, hn⟩ : ∃ n, (xs.take k).flatten.length = n := ⟨_, rfl⟩
   rw [hn] at hle hts ⊢
   have hsz : (⟨x.toArray⟩ : ByteArray).size = x.length := by simp [ByteArray.size]
   clear hxk hn
   by_cases hbig : 131072 < n + x.length
   ·have HR2 := hide (show r = ([], 6) by rw [← HR.out, wrapF, if_pos (by omega)])
    clear hts htl
    go_wp2_with fail
    go_ret2
    rw [HR2.out]
    exact ⟨rfl, Below.refl _ _⟩
   ·go_wp2_with fail
    go_roundw
    case rel => exact ⟨k + 1, by omega, by go_num, by rw [hts]; go_num, by omega, by first | rfl | trivial⟩
    case measure => simp [intOf]; omega
  ·have hke : k = xs.length := by omega
   subst hke
   rw [List.take_length] at hle ⊢
   obtain ⟨m, hm⟩ : ∃ m, xs.flatten.length = m := ⟨_, rfl⟩
   rw [hm] at hle ⊢
   have HM := hide hm
   have HR2 := hide (show r = (wrapW t xs.flatten, 0) by rw [← HR.out, wrapF, if_neg (by omega)])
   have ut := u8_of t
   obtain ⟨c0, hc0⟩ : ∃ c0, UInt8.ofNat t = c0 := ⟨_, rfl⟩
   rw [hc0] at ut
   have HC0 := hide hc0
   clear hm hc0
   obtain ⟨base, hbase⟩ : ∃ b, b = w.heap.size := ⟨_, rfl⟩
   have hown : Own RByte 1 5 (w.alloc (.cells #[.int .u8 (c0.toNat : Int)] 5)) base No (.slice (some ⟨w.heap.size, 0, none⟩) 1 1) [c0] := own_head (by omega) c0
   by_cases h1 : m < 128
   ·have um := u8_of m
    obtain ⟨c1, hc1⟩ : ∃ c1, UInt8.ofNat m = c1 := ⟨_, rfl⟩
    rw [hc1] at um
    have HL := hide (show lenB m = [c1] by rw [lenB, if_pos h1, hc1])
    clear hc1
    have hba2 : base ≤ ((w.alloc (.cells #[.int .u8 (c0.toNat : Int)] 5)).alloc (.cells #[.int .u8 (c1.toNat : Int)] 5)).heap.size := by rw [World.size_alloc, World.size_alloc]; omega
    have hnews := news_bytes (w.alloc (.cells #[.int .u8 (c0.toNat : Int)] 5)) No #[.int .u8 (c1.toNat : Int)] 5 [c1] rfl
    rw [World.size_alloc] at hnews
    have hown3 := hown.alloc RByte.ok (no_lt _) (.cells #[.int .u8 (c1.toNat : Int)] 5)
    have HBS := hide hbase
    clear hbase hown
    go_upto_region 19 with (first
     | (at_builtin; refine wpList_app RByte.ok _ rfl (.tmp 54) (.tmp 57) 63 rfl base 5 (.int .u8 0) 1 Tryz.underlying63 info_u8t rfl (by decide) No _ [c0] rfl hown3 ⟨_, 0, none⟩ _ _ [c1] rfl rfl hnews (no_lt _) (by simp) (by simp [maxLen]) hba2 ?_; intro v2 w2 hown2 hg2 hb2 hat2; obtain ⟨A2, cq, hv2⟩ : ∃ A2 cq, v2 = .slice A2 2 cq := (hown2.sl RByte.ok).shape; subst hv2)
     | fail)
    have hb2' : Below w.heap.size w w2 := (((Below.refl w.heap.size w).alloc (Nat.le_refl _) _).alloc (by simp) _).trans (by rw [← HBS.out]; exact hb2)
    have hsl2 : Sl RByte 1 w2 (Lt w2.heap.size) ([c0] ++ [c1]) [.slice A2 2 cq] := (Sl.ok RByte.ok).mono (hown2.sl RByte.ok) (fun _ _ => rfl) (fun k hk => by rcases hk with hk | hk; exact hk.elim; exact hk.2)
    have hconv := fun W (h : Below w2.heap.size w2 W) => run_bts_str (P := Tryz.prog) W 63 9 5 Tryz.underlying63 Tryz.underlying5 Tryz.underlying9 _ (.slice A2 2 cq) ([c0] ++ [c1]) ((Sl.ok RByte.ok).mono hsl2 (fun k hk => h.block k hk) (fun _ hk => hk))
    have hcd := hconv w2.drew (Below.refl _ _).drew
    have hsj : Sl RStr 1 w2.drew (Lt w2.drew.heap.size) xs [.slice A xs.length c] := (Sl.ok RStr.ok).mono HS.out (fun k hk => ((hb2'.drew).block k hk)) (fun k hk => Nat.lt_of_lt_of_le hk hb2'.size)
    have j0 := Join_flat A xs c w2.drew _ (fun _ h => h) hsj hN (by rw [HM.out]; omega)
    obtain ⟨yt, hyt⟩ : ∃ yt : ByteArray, yt = ⟨xs.flatten.toArray⟩ := ⟨_, rfl⟩
    rw [← hyt] at j0
    have J := hide j0
    have hyts : yt.size = m := by rw [hyt, ba_mk, HM.out]
    clear j0
    have HBD := hide (show Below w.heap.size w w2.drew from hb2'.drew)
    obtain ⟨yh, hyh⟩ : ∃ yh : ByteArray, yh = ⟨([c0] ++ [c1]).toArray⟩ := ⟨_, rfl⟩
    have hyhs : yh.size = 2 := by rw [hyh]; rfl
    have hcd' : (convert 63 9 (.slice A2 2 cq)).run Tryz.prog w2.drew = .ok (.string yh) w2.drew := by rw [hyh]; exact hcd
    have hs0 : ((convert 63 9 (.slice A2 2 cq)).run Tryz.prog w2.drew = .ok (.string yh) w2.drew ∧ Below w2.drew.heap.size w2.drew w2.drew) := ⟨hcd', Below.refl _ _⟩
    have HCV := hide (show ∀ W, Below w2.drew.heap.size w2.drew W → (convert 63 9 (.slice A2 2 cq)).run Tryz.prog W = .ok (.string yh) W from fun W hW => by rw [hyh]; exact hconv W ((Below.refl _ _).drew.trans hW))
    clear hcd hconv hsl2 hb2' hown2 hg2 hb2 hat2 hsj hown3 hnews hba2
    have hbs : ¬ 9223372036854775807 < yh.size + yt.size := by omega
    obtain ⟨y, hy⟩ : ∃ y : ByteArray, y = yh ++ yt := ⟨_, rfl⟩
    have hy2 : yh ++ yt = y := hy.symm
    have HY := hide (show y = ⟨(([c0] ++ [c1]) ++ xs.flatten).toArray⟩ by rw [hy, hyh, hyt]; exact ba_app _ _)
    have HFIN := hide (show Ending.returned (.tuple #[.string y, .int .i64 0]) = Ending.returned (wrapR r) by rw [HR2.out, wrapR, HY.out]; simp only [wrapW, HM.out, HL.out, HC0.out]; rfl)
    clear hy hyh hyt hyhs hyts
    go_region_held3 (fun W => (convert 63 9 (.slice A2 2 cq)).run Tryz.prog W = .ok (.string yh) W ∧ Below w2.drew.heap.size w2.drew W)
     (first | exact hs1 | exact hs0)
     (first
      | (go_at_call 66; refine J.out.mono ?_; rintro e wn ⟨rfl, hbn⟩; have hs1 : (convert 63 9 (.slice A2 2 cq)).run Tryz.prog wn = .ok (.string yh) wn ∧ Below w2.drew.heap.size w2.drew wn := ⟨HCV.out wn hbn, hbn⟩)
      | fail)
    all_goals
     go_wp2_with fail
     go_ret2
     exact ⟨HFIN.out, HBD.out.trans (hbn.mono HBD.out.size)⟩
   ·have um := u8_of m
    obtain ⟨c1, hc1⟩ : ∃ c1, UInt8.ofNat m = c1 := ⟨_, rfl⟩
    rw [hc1] at um
    by_cases h2 : m < 256
    ·have HL := hide (show lenB m = [129, c1] by rw [lenB, if_neg h1, if_pos h2, hc1])
     clear hc1
     have hba2 : base ≤ ((w.alloc (.cells #[.int .u8 (c0.toNat : Int)] 5)).alloc (.cells #[.int .u8 129, .int .u8 (c1.toNat : Int)] 5)).heap.size := by rw [World.size_alloc, World.size_alloc]; omega
     have hnews := news_bytes (w.alloc (.cells #[.int .u8 (c0.toNat : Int)] 5)) No #[.int .u8 129, .int .u8 (c1.toNat : Int)] 5 [129, c1] rfl
     rw [World.size_alloc] at hnews
     have hown3 := hown.alloc RByte.ok (no_lt _) (.cells #[.int .u8 129, .int .u8 (c1.toNat : Int)] 5)
     have HBS := hide hbase
     clear hbase hown
     go_upto_region 19 with (first
      | (at_builtin; refine wpList_app RByte.ok _ rfl (.tmp 62) (.tmp 65) 63 rfl base 5 (.int .u8 0) 1 Tryz.underlying63 info_u8t rfl (by decide) No _ [c0] rfl hown3 ⟨_, 0, none⟩ _ _ [129, c1] rfl rfl hnews (no_lt _) (by simp) (by simp [maxLen]) hba2 ?_; intro v2 w2 hown2 hg2 hb2 hat2; obtain ⟨A2, cq, hv2⟩ : ∃ A2 cq, v2 = .slice A2 3 cq := (hown2.sl RByte.ok).shape; subst hv2)
      | fail)
     have hb2' : Below w.heap.size w w2 := (((Below.refl w.heap.size w).alloc (Nat.le_refl _) _).alloc (by simp) _).trans (by rw [← HBS.out]; exact hb2)
     have hsl2 : Sl RByte 1 w2 (Lt w2.heap.size) ([c0] ++ [129, c1]) [.slice A2 3 cq] := (Sl.ok RByte.ok).mono (hown2.sl RByte.ok) (fun _ _ => rfl) (fun k hk => by rcases hk with hk | hk; exact hk.elim; exact hk.2)
     have hconv := fun W (h : Below w2.heap.size w2 W) => run_bts_str (P := Tryz.prog) W 63 9 5 Tryz.underlying63 Tryz.underlying5 Tryz.underlying9 _ (.slice A2 3 cq) ([c0] ++ [129, c1]) ((Sl.ok RByte.ok).mono hsl2 (fun k hk => h.block k hk) (fun _ hk => hk))
     have hcd := hconv w2.drew (Below.refl _ _).drew
     have hsj : Sl RStr 1 w2.drew (Lt w2.drew.heap.size) xs [.slice A xs.length c] := (Sl.ok RStr.ok).mono HS.out (fun k hk => ((hb2'.drew).block k hk)) (fun k hk => Nat.lt_of_lt_of_le hk hb2'.size)
     have j0 := Join_flat A xs c w2.drew _ (fun _ h => h) hsj hN (by rw [HM.out]; omega)
     obtain ⟨yt, hyt⟩ : ∃ yt : ByteArray, yt = ⟨xs.flatten.toArray⟩ := ⟨_, rfl⟩
     rw [← hyt] at j0
     have J := hide j0
     have hyts : yt.size = m := by rw [hyt, ba_mk, HM.out]
     clear j0
     have HBD := hide (show Below w.heap.size w w2.drew from hb2'.drew)
     obtain ⟨yh, hyh⟩ : ∃ yh : ByteArray, yh = ⟨([c0] ++ [129, c1]).toArray⟩ := ⟨_, rfl⟩
     have hyhs : yh.size = 3 := by rw [hyh]; rfl
     have hcd' : (convert 63 9 (.slice A2 3 cq)).run Tryz.prog w2.drew = .ok (.string yh) w2.drew := by rw [hyh]; exact hcd
     have hs0 : ((convert 63 9 (.slice A2 3 cq)).run Tryz.prog w2.drew = .ok (.string yh) w2.drew ∧ Below w2.drew.heap.size w2.drew w2.drew) := ⟨hcd', Below.refl _ _⟩
     have HCV := hide (show ∀ W, Below w2.drew.heap.size w2.drew W → (convert 63 9 (.slice A2 3 cq)).run Tryz.prog W = .ok (.string yh) W from fun W hW => by rw [hyh]; exact hconv W ((Below.refl _ _).drew.trans hW))
     clear hcd hconv hsl2 hb2' hown2 hg2 hb2 hat2 hsj hown3 hnews hba2
     have hbs : ¬ 9223372036854775807 < yh.size + yt.size := by omega
     obtain ⟨y, hy⟩ : ∃ y : ByteArray, y = yh ++ yt := ⟨_, rfl⟩
     have hy2 : yh ++ yt = y := hy.symm
     have HY := hide (show y = ⟨(([c0] ++ [129, c1]) ++ xs.flatten).toArray⟩ by rw [hy, hyh, hyt]; exact ba_app _ _)
     have HFIN := hide (show Ending.returned (.tuple #[.string y, .int .i64 0]) = Ending.returned (wrapR r) by rw [HR2.out, wrapR, HY.out]; simp only [wrapW, HM.out, HL.out, HC0.out]; rfl)
     clear hy hyh hyt hyhs hyts
     go_region_held3 (fun W => (convert 63 9 (.slice A2 3 cq)).run Tryz.prog W = .ok (.string yh) W ∧ Below w2.drew.heap.size w2.drew W)
      (first | exact hs1 | exact hs0)
      (first
       | (go_at_call 66; refine J.out.mono ?_; rintro e wn ⟨rfl, hbn⟩; have hs1 : (convert 63 9 (.slice A2 3 cq)).run Tryz.prog wn = .ok (.string yh) wn ∧ Below w2.drew.heap.size w2.drew wn := ⟨HCV.out wn hbn, hbn⟩)
       | fail)
     all_goals
      go_wp2_with fail
      go_ret2
      exact ⟨HFIN.out, HBD.out.trans (hbn.mono HBD.out.size)⟩
    ·obtain ⟨q8, hq8⟩ : ∃ q8, m / 256 = q8 := ⟨_, rfl⟩
     have um2 := u8_of q8
     rw [show (q8 : Int) = (m : Int) / 256 by omega] at um2
     obtain ⟨c2, hc2⟩ : ∃ c2, UInt8.ofNat q8 = c2 := ⟨_, rfl⟩
     rw [hc2] at um2
     by_cases h3 : m < 65536
     ·have HL := hide (show lenB m = [130, c2, c1] by rw [lenB, if_neg h1, if_neg h2, if_pos h3, hc1, hq8, hc2])
      have h1i : ¬ (m : Int) < 128 := by omega
      have h2i : ¬ (m : Int) < 256 := by omega
      have h3i : (m : Int) < 65536 := by omega
      clear hc1 hc2 hq8 h1 h2 h3 hle
      have hba2 : base ≤ ((w.alloc (.cells #[.int .u8 (c0.toNat : Int)] 5)).alloc (.cells #[.int .u8 130, .int .u8 (c2.toNat : Int), .int .u8 (c1.toNat : Int)] 5)).heap.size := by rw [World.size_alloc, World.size_alloc]; omega
      have hnews := news_bytes (w.alloc (.cells #[.int .u8 (c0.toNat : Int)] 5)) No #[.int .u8 130, .int .u8 (c2.toNat : Int), .int .u8 (c1.toNat : Int)] 5 [130, c2, c1] rfl
      rw [World.size_alloc] at hnews
      have hown3 := hown.alloc RByte.ok (no_lt _) (.cells #[.int .u8 130, .int .u8 (c2.toNat : Int), .int .u8 (c1.toNat : Int)] 5)
      have HBS := hide hbase
      clear hbase hown
      go_upto_region 19 with (first
       | (at_builtin; refine wpList_app RByte.ok _ rfl (.tmp 70) (.tmp 76) 63 rfl base 5 (.int .u8 0) 1 Tryz.underlying63 info_u8t rfl (by decide) No _ [c0] rfl hown3 ⟨_, 0, none⟩ _ _ [130, c2, c1] rfl rfl hnews (no_lt _) (by simp) (by simp [maxLen]) hba2 ?_; intro v2 w2 hown2 hg2 hb2 hat2; obtain ⟨A2, cq, hv2⟩ : ∃ A2 cq, v2 = .slice A2 4 cq := (hown2.sl RByte.ok).shape; subst hv2)
       | fail)
      have hb2' : Below w.heap.size w w2 := (((Below.refl w.heap.size w).alloc (Nat.le_refl _) _).alloc (by simp) _).trans (by rw [← HBS.out]; exact hb2)
      have hsl2 : Sl RByte 1 w2 (Lt w2.heap.size) ([c0] ++ [130, c2, c1]) [.slice A2 4 cq] := (Sl.ok RByte.ok).mono (hown2.sl RByte.ok) (fun _ _ => rfl) (fun k hk => by rcases hk with hk | hk; exact hk.elim; exact hk.2)
      have hconv := fun W (h : Below w2.heap.size w2 W) => run_bts_str (P := Tryz.prog) W 63 9 5 Tryz.underlying63 Tryz.underlying5 Tryz.underlying9 _ (.slice A2 4 cq) ([c0] ++ [130, c2, c1]) ((Sl.ok RByte.ok).mono hsl2 (fun k hk => h.block k hk) (fun _ hk => hk))
      have hcd := hconv w2.drew (Below.refl _ _).drew
      have hsj : Sl RStr 1 w2.drew (Lt w2.drew.heap.size) xs [.slice A xs.length c] := (Sl.ok RStr.ok).mono HS.out (fun k hk => ((hb2'.drew).block k hk)) (fun k hk => Nat.lt_of_lt_of_le hk hb2'.size)
      have j0 := Join_flat A xs c w2.drew _ (fun _ h => h) hsj hN (by rw [HM.out]; omega)
      obtain ⟨yt, hyt⟩ : ∃ yt : ByteArray, yt = ⟨xs.flatten.toArray⟩ := ⟨_, rfl⟩
      rw [← hyt] at j0
      have J := hide j0
      have hyts : yt.size = m := by rw [hyt, ba_mk, HM.out]
      clear j0
      have HBD := hide (show Below w.heap.size w w2.drew from hb2'.drew)
      obtain ⟨yh, hyh⟩ : ∃ yh : ByteArray, yh = ⟨([c0] ++ [130, c2, c1]).toArray⟩ := ⟨_, rfl⟩
      have hyhs : yh.size = 4 := by rw [hyh]; rfl
      have hcd' : (convert 63 9 (.slice A2 4 cq)).run Tryz.prog w2.drew = .ok (.string yh) w2.drew := by rw [hyh]; exact hcd
      have hs0 : ((convert 63 9 (.slice A2 4 cq)).run Tryz.prog w2.drew = .ok (.string yh) w2.drew ∧ Below w2.drew.heap.size w2.drew w2.drew) := ⟨hcd', Below.refl _ _⟩
      have HCV := hide (show ∀ W, Below w2.drew.heap.size w2.drew W → (convert 63 9 (.slice A2 4 cq)).run Tryz.prog W = .ok (.string yh) W from fun W hW => by rw [hyh]; exact hconv W ((Below.refl _ _).drew.trans hW))
      clear hcd hconv hsl2 hb2' hown2 hg2 hb2 hat2 hsj hown3 hnews hba2
      have hbs : ¬ 9223372036854775807 < yh.size + yt.size := by omega
      obtain ⟨y, hy⟩ : ∃ y : ByteArray, y = yh ++ yt := ⟨_, rfl⟩
      have hy2 : yh ++ yt = y := hy.symm
      have HY := hide (show y = ⟨(([c0] ++ [130, c2, c1]) ++ xs.flatten).toArray⟩ by rw [hy, hyh, hyt]; exact ba_app _ _)
      have HFIN := hide (show Ending.returned (.tuple #[.string y, .int .i64 0]) = Ending.returned (wrapR r) by rw [HR2.out, wrapR, HY.out]; simp only [wrapW, HM.out, HL.out, HC0.out]; rfl)
      clear hy hyh hyt hyhs hyts
      go_region_held3 (fun W => (convert 63 9 (.slice A2 4 cq)).run Tryz.prog W = .ok (.string yh) W ∧ Below w2.drew.heap.size w2.drew W)
       (first | exact hs1 | exact hs0)
       (first
        | (go_at_call 66; refine J.out.mono ?_; rintro e wn ⟨rfl, hbn⟩; have hs1 : (convert 63 9 (.slice A2 4 cq)).run Tryz.prog wn = .ok (.string yh) wn ∧ Below w2.drew.heap.size w2.drew wn := ⟨HCV.out wn hbn, hbn⟩)
        | fail)
      all_goals
       go_wp2_with fail
       go_ret2
       exact ⟨HFIN.out, HBD.out.trans (hbn.mono HBD.out.size)⟩
     ·obtain ⟨q16, hq16⟩ : ∃ q16, m / 65536 = q16 := ⟨_, rfl⟩
      have um3 := u8_of q16
      rw [show (q16 : Int) = (m : Int) / 65536 by omega] at um3
      obtain ⟨c3, hc3⟩ : ∃ c3, UInt8.ofNat q16 = c3 := ⟨_, rfl⟩
      rw [hc3] at um3
      have HL := hide (show lenB m = [131, c3, c2, c1] by rw [lenB, if_neg h1, if_neg h2, if_neg h3, hc1, hq8, hq16, hc2, hc3])
      have h1i : ¬ (m : Int) < 128 := by omega
      have h2i : ¬ (m : Int) < 256 := by omega
      have h3i : ¬ (m : Int) < 65536 := by omega
      have hlei : (m : Int) ≤ 131072 := by omega
      clear hc1 hc2 hc3 hq8 hq16 h1 h2 h3 hle
      have hba2 : base ≤ ((w.alloc (.cells #[.int .u8 (c0.toNat : Int)] 5)).alloc (.cells #[.int .u8 131, .int .u8 (c3.toNat : Int), .int .u8 (c2.toNat : Int), .int .u8 (c1.toNat : Int)] 5)).heap.size := by rw [World.size_alloc, World.size_alloc]; omega
      have hnews := news_bytes (w.alloc (.cells #[.int .u8 (c0.toNat : Int)] 5)) No #[.int .u8 131, .int .u8 (c3.toNat : Int), .int .u8 (c2.toNat : Int), .int .u8 (c1.toNat : Int)] 5 [131, c3, c2, c1] rfl
      rw [World.size_alloc] at hnews
      have hown3 := hown.alloc RByte.ok (no_lt _) (.cells #[.int .u8 131, .int .u8 (c3.toNat : Int), .int .u8 (c2.toNat : Int), .int .u8 (c1.toNat : Int)] 5)
      have HBS := hide hbase
      clear hbase hown
      go_upto_region 19 with (first
       | (at_builtin; refine wpList_app RByte.ok _ rfl (.tmp 40) (.tmp 49) 63 rfl base 5 (.int .u8 0) 1 Tryz.underlying63 info_u8t rfl (by decide) No _ [c0] rfl hown3 ⟨_, 0, none⟩ _ _ [131, c3, c2, c1] rfl rfl hnews (no_lt _) (by simp) (by simp [maxLen]) hba2 ?_; intro v2 w2 hown2 hg2 hb2 hat2; obtain ⟨A2, cq, hv2⟩ : ∃ A2 cq, v2 = .slice A2 5 cq := (hown2.sl RByte.ok).shape; subst hv2)
       | fail)
      have hb2' : Below w.heap.size w w2 := (((Below.refl w.heap.size w).alloc (Nat.le_refl _) _).alloc (by simp) _).trans (by rw [← HBS.out]; exact hb2)
      have hsl2 : Sl RByte 1 w2 (Lt w2.heap.size) ([c0] ++ [131, c3, c2, c1]) [.slice A2 5 cq] := (Sl.ok RByte.ok).mono (hown2.sl RByte.ok) (fun _ _ => rfl) (fun k hk => by rcases hk with hk | hk; exact hk.elim; exact hk.2)
      have hconv := fun W (h : Below w2.heap.size w2 W) => run_bts_str (P := Tryz.prog) W 63 9 5 Tryz.underlying63 Tryz.underlying5 Tryz.underlying9 _ (.slice A2 5 cq) ([c0] ++ [131, c3, c2, c1]) ((Sl.ok RByte.ok).mono hsl2 (fun k hk => h.block k hk) (fun _ hk => hk))
      have hcd := hconv w2.drew (Below.refl _ _).drew
      have hsj : Sl RStr 1 w2.drew (Lt w2.drew.heap.size) xs [.slice A xs.length c] := (Sl.ok RStr.ok).mono HS.out (fun k hk => ((hb2'.drew).block k hk)) (fun k hk => Nat.lt_of_lt_of_le hk hb2'.size)
      have j0 := Join_flat A xs c w2.drew _ (fun _ h => h) hsj hN (by rw [HM.out]; omega)
      obtain ⟨yt, hyt⟩ : ∃ yt : ByteArray, yt = ⟨xs.flatten.toArray⟩ := ⟨_, rfl⟩
      rw [← hyt] at j0
      have J := hide j0
      have hyts : yt.size = m := by rw [hyt, ba_mk, HM.out]
      clear j0
      have HBD := hide (show Below w.heap.size w w2.drew from hb2'.drew)
      obtain ⟨yh, hyh⟩ : ∃ yh : ByteArray, yh = ⟨([c0] ++ [131, c3, c2, c1]).toArray⟩ := ⟨_, rfl⟩
      have hyhs : yh.size = 5 := by rw [hyh]; rfl
      have hcd' : (convert 63 9 (.slice A2 5 cq)).run Tryz.prog w2.drew = .ok (.string yh) w2.drew := by rw [hyh]; exact hcd
      have hs0 : ((convert 63 9 (.slice A2 5 cq)).run Tryz.prog w2.drew = .ok (.string yh) w2.drew ∧ Below w2.drew.heap.size w2.drew w2.drew) := ⟨hcd', Below.refl _ _⟩
      have HCV := hide (show ∀ W, Below w2.drew.heap.size w2.drew W → (convert 63 9 (.slice A2 5 cq)).run Tryz.prog W = .ok (.string yh) W from fun W hW => by rw [hyh]; exact hconv W ((Below.refl _ _).drew.trans hW))
      clear hcd hconv hsl2 hb2' hown2 hg2 hb2 hat2 hsj hown3 hnews hba2
      have hbs : ¬ 9223372036854775807 < yh.size + yt.size := by omega
      obtain ⟨y, hy⟩ : ∃ y : ByteArray, y = yh ++ yt := ⟨_, rfl⟩
      have hy2 : yh ++ yt = y := hy.symm
      have HY := hide (show y = ⟨(([c0] ++ [131, c3, c2, c1]) ++ xs.flatten).toArray⟩ by rw [hy, hyh, hyt]; exact ba_app _ _)
      have HFIN := hide (show Ending.returned (.tuple #[.string y, .int .i64 0]) = Ending.returned (wrapR r) by rw [HR2.out, wrapR, HY.out]; simp only [wrapW, HM.out, HL.out, HC0.out]; rfl)
      clear hy hyh hyt hyhs hyts
      go_region_held3 (fun W => (convert 63 9 (.slice A2 5 cq)).run Tryz.prog W = .ok (.string yh) W ∧ Below w2.drew.heap.size w2.drew W)
       (first | exact hs1 | exact hs0)
       (first
        | (go_at_call 66; refine J.out.mono ?_; rintro e wn ⟨rfl, hbn⟩; have hs1 : (convert 63 9 (.slice A2 5 cq)).run Tryz.prog wn = .ok (.string yh) wn ∧ Below w2.drew.heap.size w2.drew wn := ⟨HCV.out wn hbn, hbn⟩)
        | fail)
      all_goals
       go_wp2_with fail
       go_ret2
       exact ⟨HFIN.out, HBD.out.trans (hbn.mono HBD.out.size)⟩
end Go.Proofs.YtahamclodagihaaGreatDoor
namespace Go.Proofs.YtahamclodagihaaGreatDoor
open Go.RowKit
def oneR : Except Int Elt → Value
 | .error k => .tuple #[noElt, .int .i64 k]
 | .ok e => .tuple #[eltV e, .int .i64 0]
theorem resE_new (w : World) : ResE w.heap.size (w.alloc (.cells #[.int .i64 0, .string ⟨#[]⟩, .string ⟨#[]⟩] 72)) := heap_alloc_new w _
theorem str_nil {l : List UInt8} {x : ByteArray} (h : x = ⟨l.toArray⟩) : l = [] ↔ x.size = 0 := by
 subst h
 constructor
 ·intro h; subst h; rfl
 ·intro h; exact List.eq_nil_of_length_eq_zero h
def oneG : Except Int (Elt × List UInt8) → Except Int Elt
 | .error k => .error k
 | .ok (e, r) => if r = [] then .ok e else .error 4
theorem oneF_eq (b : List UInt8) : oneF b = oneG (readF b) := by
 unfold oneF oneG
 cases readF b <;> rfl
set_option maxRecDepth 100000 in
set_option maxHeartbeats 4000000 in
theorem One_any (s : ByteArray) (hs : s.size ≤ 1000000000) (w : World) :
    Calls Tryz.prog 83 #[.string s] w fun e w' => e = .returned (oneR (oneF s.data.toList)) ∧ Below w.heap.size w w' := by
  obtain ⟨r, hr⟩ : ∃ r, readF s.data.toList = r := ⟨_, rfl⟩
  obtain ⟨o, ho⟩ : ∃ o, oneF s.data.toList = o := ⟨_, rfl⟩
  rw [ho]
  have HO := hide (show o = oneG r by rw [← ho, oneF_eq, hr])
  have HR := hide hr
  clear hr ho
  go_enter Tryz.func83, Tryz.ntmps83
  go_wp2_with fail
  refine (Read_any s hs _).mono ?_
  rintro e w1 ⟨rfl, hb1⟩
  rw [HR.out]
  have hb0 : Below w.heap.size w w1 := ((Below.refl _ _).alloc (Nat.le_refl _) _).trans (hb1.mono (by simp))
  have hr1 : ResE w.heap.size w1 := (resE_new w).below hb1
  have hgl : w.heap.size < w1.heap.size := hr1.lt
  have HR1 := hide hr1
  have HB1 := hide hb0
  clear hr1 hb0 hb1
  cases r with
  | error k =>
    have hk : k ≠ 0 := fun h => read_err0 _ (h ▸ HR.out)
    have ht : (k != 0) = true := by simpa using hk
    have HN := hide (show o = .error k from HO.out)
    have hrA := HR1.out.below ((Below.refl w1.heap.size w1).alloc (Nat.le_refl _) (.cells #[.int .i64 0, .string ⟨#[]⟩, .string ⟨#[]⟩] 72))
    have hbA := HB1.out.alloc HB1.out.size (.cells #[.int .i64 0, .string ⟨#[]⟩, .string ⟨#[]⟩] 72)
    rw [show readR (.error k) = .tuple #[.agg #[.int .i64 0, .string ⟨#[]⟩, .string ⟨#[]⟩], .string ⟨#[]⟩, .int .i64 k] from rfl]
    clear hk
    go_upto_region 2 with fail
    obtain ⟨wA, hwA⟩ : ∃ W, W = w1.alloc (.cells #[.int .i64 0, .string ⟨#[]⟩, .string ⟨#[]⟩] 72) := ⟨_, rfl⟩
    rw [← hwA] at hrA hbA ⊢
    clear hwA
    obtain ⟨r0, r1, r2, f0, f1, f2⟩ := hrA.facts
    go_wp2_with fail
    obtain ⟨q0, q1, q2⟩ := hrA.store (.int .i64 0) (.string ⟨#[]⟩) (.string ⟨#[]⟩)
    have hbz := below_store3' hbA (Nat.le_refl w.heap.size) (.int .i64 0) (.string ⟨#[]⟩) (.string ⟨#[]⟩)
    obtain ⟨W3, hW3⟩ : ∃ W3, W3 = ((wA.setCell ⟨w.heap.size, 0, none⟩ (.int .i64 0)).setCell ⟨w.heap.size, 1, none⟩ (.string ⟨#[]⟩)).setCell ⟨w.heap.size, 2, none⟩ (.string ⟨#[]⟩) := ⟨_, rfl⟩
    rw [← hW3] at q0 q1 q2 hbz ⊢
    exact bodyPost_ret (v := .tuple #[.agg #[(.int .i64 0), (.string ⟨#[]⟩), (.string ⟨#[]⟩)], .int .i64 k]) (by simp [results, Tryz.results83, go_sem, q0, q1, q2]) rfl ⟨by rw [HN.out]; rfl, hbz⟩
  | ok p =>
    obtain ⟨⟨t, c, raw⟩, q⟩ := p
    obtain ⟨x1, hx1⟩ : ∃ x : ByteArray, x = ⟨c.toArray⟩ := ⟨_, rfl⟩
    obtain ⟨x2, hx2⟩ : ∃ x : ByteArray, x = ⟨raw.toArray⟩ := ⟨_, rfl⟩
    obtain ⟨x3, hx3⟩ : ∃ x : ByteArray, x = ⟨q.toArray⟩ := ⟨_, rfl⟩
    have HV := hide (show eltV (t, c, raw) = .agg #[.int .i64 (t : Int), .string x1, .string x2] by rw [eltV, hx1, hx2])
    rw [show readR (.ok ((t, c, raw), q)) = .tuple #[.agg #[.int .i64 (t : Int), .string x1, .string x2], .string x3, .int .i64 0] by rw [readR, HV.out, hx3]]
    have hrA := HR1.out.below ((Below.refl w1.heap.size w1).alloc (Nat.le_refl _) (.cells #[.int .i64 (t : Int), .string x1, .string x2] 72))
    have hbA := HB1.out.alloc HB1.out.size (.cells #[.int .i64 (t : Int), .string x1, .string x2] 72)
    have hq := str_nil hx3
    have hxs := size_string x3
    clear hx1 hx2 hx3
    go_upto_region 2 with fail
    obtain ⟨wA, hwA⟩ : ∃ W, W = w1.alloc (.cells #[.int .i64 (t : Int), .string x1, .string x2] 72) := ⟨_, rfl⟩
    have n0 : wA.cell? ⟨w1.heap.size, 0, none⟩ = some (.int .i64 (t : Int)) := by rw [hwA, World.cell?_alloc_new]; rfl
    have n1 : wA.cell? ⟨w1.heap.size, 1, none⟩ = some (.string x1) := by rw [hwA, World.cell?_alloc_new]; rfl
    have n2 : wA.cell? ⟨w1.heap.size, 2, none⟩ = some (.string x2) := by rw [hwA, World.cell?_alloc_new]; rfl
    rw [← hwA] at hrA hbA ⊢
    clear hwA
    obtain ⟨r0, r1, r2, f0, f1, f2⟩ := hrA.facts
    by_cases h0 : x3.size = 0
    · have HN := hide (show o = .ok (t, c, raw) by rw [HO.out, oneG, if_pos (hq.2 h0)])
      have e1 : x3.toList = [] := by rw [ByteArray.toList_eq]; exact List.eq_nil_of_length_eq_zero (by omega)
      have e2 : ¬ (0 : Int) < (x3.size : Int) := by omega
      clear hq h0 hxs
      go_wp2_with fail
      obtain ⟨q0, q1, q2⟩ := hrA.store (.int .i64 (t : Int)) (.string x1) (.string x2)
      have hbz := below_store3' hbA (Nat.le_refl w.heap.size) (.int .i64 (t : Int)) (.string x1) (.string x2)
      obtain ⟨W3, hW3⟩ : ∃ W3, W3 = ((wA.setCell ⟨w.heap.size, 0, none⟩ (.int .i64 (t : Int))).setCell ⟨w.heap.size, 1, none⟩ (.string x1)).setCell ⟨w.heap.size, 2, none⟩ (.string x2) := ⟨_, rfl⟩
      rw [← hW3] at q0 q1 q2 hbz ⊢
      exact bodyPost_ret (v := .tuple #[.agg #[(.int .i64 (t : Int)), (.string x1), (.string x2)], .int .i64 0]) (by simp [results, Tryz.results83, go_sem, q0, q1, q2]) rfl ⟨by rw [HN.out, oneR, HV.out], hbz⟩
    · have HN := hide (show o = .error 4 by rw [HO.out, oneG, if_neg (fun h => h0 (hq.1 h))])
      have e0 : ¬ x3.toList = [] := by rw [ByteArray.toList_eq]; intro e; rw [e] at hxs; simp at hxs; omega
      have e1 : (x3.toList == []) = false := by simpa using e0
      have e3 : x3.toList.isEmpty = false := by simpa using e0
      have e2 : (0 : Int) < (x3.size : Int) := by omega
      clear hq h0 hxs e0
      go_wp2_with fail
      obtain ⟨q0, q1, q2⟩ := hrA.store (.int .i64 0) (.string ⟨#[]⟩) (.string ⟨#[]⟩)
      have hbz := below_store3' hbA (Nat.le_refl w.heap.size) (.int .i64 0) (.string ⟨#[]⟩) (.string ⟨#[]⟩)
      obtain ⟨W3, hW3⟩ : ∃ W3, W3 = ((wA.setCell ⟨w.heap.size, 0, none⟩ (.int .i64 0)).setCell ⟨w.heap.size, 1, none⟩ (.string ⟨#[]⟩)).setCell ⟨w.heap.size, 2, none⟩ (.string ⟨#[]⟩) := ⟨_, rfl⟩
      rw [← hW3] at q0 q1 q2 hbz ⊢
      exact bodyPost_ret (v := .tuple #[.agg #[(.int .i64 0), (.string ⟨#[]⟩), (.string ⟨#[]⟩)], .int .i64 4]) (by simp [results, Tryz.results83, go_sem, q0, q1, q2]) rfl ⟨by rw [HN.out]; rfl, hbz⟩
set_option maxRecDepth 100000 in
set_option maxHeartbeats 4000000 in
theorem rOne_any (s : ByteArray) (hs : s.size ≤ 1000000000) (w : World) :
    Calls Tryz.prog 46 #[.string s] w fun e w' => e = .returned (oneR (oneF s.data.toList)) ∧ Below w.heap.size w w' := by
  obtain ⟨r, hr⟩ : ∃ r, readF s.data.toList = r := ⟨_, rfl⟩
  obtain ⟨o, ho⟩ : ∃ o, oneF s.data.toList = o := ⟨_, rfl⟩
  rw [ho]
  have HO := hide (show o = oneG r by rw [← ho, oneF_eq, hr])
  have HR := hide hr
  clear hr ho
  go_enter Tryz.func46, Tryz.ntmps46
  go_wp2_with fail
  refine (rRead_any s hs _).mono ?_
  rintro e w1 ⟨rfl, hb1⟩
  rw [HR.out]
  have hb0 : Below w.heap.size w w1 := ((Below.refl _ _).alloc (Nat.le_refl _) _).trans (hb1.mono (by simp))
  have hr1 : ResE w.heap.size w1 := (resE_new w).below hb1
  have hgl : w.heap.size < w1.heap.size := hr1.lt
  have HR1 := hide hr1
  have HB1 := hide hb0
  clear hr1 hb0 hb1
  cases r with
  | error k =>
    have hk : k ≠ 0 := fun h => read_err0 _ (h ▸ HR.out)
    have ht : (k != 0) = true := by simpa using hk
    have HN := hide (show o = .error k from HO.out)
    have hrA := HR1.out.below ((Below.refl w1.heap.size w1).alloc (Nat.le_refl _) (.cells #[.int .i64 0, .string ⟨#[]⟩, .string ⟨#[]⟩] 72))
    have hbA := HB1.out.alloc HB1.out.size (.cells #[.int .i64 0, .string ⟨#[]⟩, .string ⟨#[]⟩] 72)
    rw [show readR (.error k) = .tuple #[.agg #[.int .i64 0, .string ⟨#[]⟩, .string ⟨#[]⟩], .string ⟨#[]⟩, .int .i64 k] from rfl]
    clear hk
    go_upto_region 2 with fail
    obtain ⟨wA, hwA⟩ : ∃ W, W = w1.alloc (.cells #[.int .i64 0, .string ⟨#[]⟩, .string ⟨#[]⟩] 72) := ⟨_, rfl⟩
    rw [← hwA] at hrA hbA ⊢
    clear hwA
    obtain ⟨r0, r1, r2, f0, f1, f2⟩ := hrA.facts
    go_wp2_with fail
    obtain ⟨q0, q1, q2⟩ := hrA.store (.int .i64 0) (.string ⟨#[]⟩) (.string ⟨#[]⟩)
    have hbz := below_store3' hbA (Nat.le_refl w.heap.size) (.int .i64 0) (.string ⟨#[]⟩) (.string ⟨#[]⟩)
    obtain ⟨W3, hW3⟩ : ∃ W3, W3 = ((wA.setCell ⟨w.heap.size, 0, none⟩ (.int .i64 0)).setCell ⟨w.heap.size, 1, none⟩ (.string ⟨#[]⟩)).setCell ⟨w.heap.size, 2, none⟩ (.string ⟨#[]⟩) := ⟨_, rfl⟩
    rw [← hW3] at q0 q1 q2 hbz ⊢
    exact bodyPost_ret (v := .tuple #[.agg #[(.int .i64 0), (.string ⟨#[]⟩), (.string ⟨#[]⟩)], .int .i64 k]) (by simp [results, Tryz.results46, go_sem, q0, q1, q2]) rfl ⟨by rw [HN.out]; rfl, hbz⟩
  | ok p =>
    obtain ⟨⟨t, c, raw⟩, q⟩ := p
    obtain ⟨x1, hx1⟩ : ∃ x : ByteArray, x = ⟨c.toArray⟩ := ⟨_, rfl⟩
    obtain ⟨x2, hx2⟩ : ∃ x : ByteArray, x = ⟨raw.toArray⟩ := ⟨_, rfl⟩
    obtain ⟨x3, hx3⟩ : ∃ x : ByteArray, x = ⟨q.toArray⟩ := ⟨_, rfl⟩
    have HV := hide (show eltV (t, c, raw) = .agg #[.int .i64 (t : Int), .string x1, .string x2] by rw [eltV, hx1, hx2])
    rw [show readR (.ok ((t, c, raw), q)) = .tuple #[.agg #[.int .i64 (t : Int), .string x1, .string x2], .string x3, .int .i64 0] by rw [readR, HV.out, hx3]]
    have hrA := HR1.out.below ((Below.refl w1.heap.size w1).alloc (Nat.le_refl _) (.cells #[.int .i64 (t : Int), .string x1, .string x2] 72))
    have hbA := HB1.out.alloc HB1.out.size (.cells #[.int .i64 (t : Int), .string x1, .string x2] 72)
    have hq := str_nil hx3
    have hxs := size_string x3
    clear hx1 hx2 hx3
    go_upto_region 2 with fail
    obtain ⟨wA, hwA⟩ : ∃ W, W = w1.alloc (.cells #[.int .i64 (t : Int), .string x1, .string x2] 72) := ⟨_, rfl⟩
    have n0 : wA.cell? ⟨w1.heap.size, 0, none⟩ = some (.int .i64 (t : Int)) := by rw [hwA, World.cell?_alloc_new]; rfl
    have n1 : wA.cell? ⟨w1.heap.size, 1, none⟩ = some (.string x1) := by rw [hwA, World.cell?_alloc_new]; rfl
    have n2 : wA.cell? ⟨w1.heap.size, 2, none⟩ = some (.string x2) := by rw [hwA, World.cell?_alloc_new]; rfl
    rw [← hwA] at hrA hbA ⊢
    clear hwA
    obtain ⟨r0, r1, r2, f0, f1, f2⟩ := hrA.facts
    by_cases h0 : x3.size = 0
    · have HN := hide (show o = .ok (t, c, raw) by rw [HO.out, oneG, if_pos (hq.2 h0)])
      have e1 : x3.toList = [] := by rw [ByteArray.toList_eq]; exact List.eq_nil_of_length_eq_zero (by omega)
      have e2 : ¬ (0 : Int) < (x3.size : Int) := by omega
      clear hq h0 hxs
      go_wp2_with fail
      obtain ⟨q0, q1, q2⟩ := hrA.store (.int .i64 (t : Int)) (.string x1) (.string x2)
      have hbz := below_store3' hbA (Nat.le_refl w.heap.size) (.int .i64 (t : Int)) (.string x1) (.string x2)
      obtain ⟨W3, hW3⟩ : ∃ W3, W3 = ((wA.setCell ⟨w.heap.size, 0, none⟩ (.int .i64 (t : Int))).setCell ⟨w.heap.size, 1, none⟩ (.string x1)).setCell ⟨w.heap.size, 2, none⟩ (.string x2) := ⟨_, rfl⟩
      rw [← hW3] at q0 q1 q2 hbz ⊢
      exact bodyPost_ret (v := .tuple #[.agg #[(.int .i64 (t : Int)), (.string x1), (.string x2)], .int .i64 0]) (by simp [results, Tryz.results46, go_sem, q0, q1, q2]) rfl ⟨by rw [HN.out, oneR, HV.out], hbz⟩
    · have HN := hide (show o = .error 4 by rw [HO.out, oneG, if_neg (fun h => h0 (hq.1 h))])
      have e0 : ¬ x3.toList = [] := by rw [ByteArray.toList_eq]; intro e; rw [e] at hxs; simp at hxs; omega
      have e1 : (x3.toList == []) = false := by simpa using e0
      have e3 : x3.toList.isEmpty = false := by simpa using e0
      have e2 : (0 : Int) < (x3.size : Int) := by omega
      clear hq h0 hxs e0
      go_wp2_with fail
      obtain ⟨q0, q1, q2⟩ := hrA.store (.int .i64 0) (.string ⟨#[]⟩) (.string ⟨#[]⟩)
      have hbz := below_store3' hbA (Nat.le_refl w.heap.size) (.int .i64 0) (.string ⟨#[]⟩) (.string ⟨#[]⟩)
      obtain ⟨W3, hW3⟩ : ∃ W3, W3 = ((wA.setCell ⟨w.heap.size, 0, none⟩ (.int .i64 0)).setCell ⟨w.heap.size, 1, none⟩ (.string ⟨#[]⟩)).setCell ⟨w.heap.size, 2, none⟩ (.string ⟨#[]⟩) := ⟨_, rfl⟩
      rw [← hW3] at q0 q1 q2 hbz ⊢
      exact bodyPost_ret (v := .tuple #[.agg #[(.int .i64 0), (.string ⟨#[]⟩), (.string ⟨#[]⟩)], .int .i64 4]) (by simp [results, Tryz.results46, go_sem, q0, q1, q2]) rfl ⟨by rw [HN.out]; rfl, hbz⟩
end Go.Proofs.YtahamclodagihaaGreatDoor
namespace Go.Proofs.YtahamclodagihaaGreatDoor
open Go.RowKit
theorem info_elt : (Tryz.prog.info? 72).map (fun i => (i.zero, i.size, i.bytes)) = some (some (.agg #[.int .i64 0, .string ⟨#[]⟩, .string ⟨#[]⟩]), 3, 40) := by kernel_rfl
def preL (out : List Elt) : Except Int (List Elt) → Except Int (List Elt)
 | .error k => .error k
 | .ok l => .ok (out ++ l)
theorem preL_nil (o : Except Int (List Elt)) : preL [] o = o := by cases o <;> rfl
theorem preL_app (a b : List Elt) (o : Except Int (List Elt)) : preL a (preL b o) = preL (a ++ b) o := by cases o <;> simp [preL]
theorem listF_pre {b : List UInt8} {e : Elt} {r : List UInt8} (h : readF b = .ok (e, r)) : listF b = preL [e] (listF r) := by
 rw [listF_cons h]
 cases listF r <;> rfl
def listRes : Except Int (List Elt) → World → Ending → World → Prop
 | .error k, _, e, _ => e = .returned (.tuple #[.slice none 0 0, .int .i64 k])
 | .ok l, w, e, w' => ∃ A c, e = .returned (.tuple #[.slice A l.length c, .int .i64 0]) ∧ Sl RElt 3 w' (Btw w.heap.size w'.heap.size) l [.slice A l.length c]
def ListPost (w : World) (o : Except Int (List Elt)) (e : Ending) (w' : World) : Prop := Below w.heap.size w w' ∧ listRes o w e w'
theorem ListPost.err {w w' : World} {o : Except Int (List Elt)} {k : Int} (h : o = .error k) (hb : Below w.heap.size w w') : ListPost w o (.returned (.tuple #[.slice none 0 0, .int .i64 k])) w' := by
 subst h; exact ⟨hb, rfl⟩
theorem ListPost.ok {w w' : World} {o : Except Int (List Elt)} {l : List Elt} {A : Option Addr} {n c : Nat} (h : o = .ok l) (hb : Below w.heap.size w w') (hs : Sl RElt 3 w' (Btw w.heap.size w'.heap.size) l [.slice A n c]) : ListPost w o (.returned (.tuple #[.slice A n c, .int .i64 0])) w' := by
 subst h
 obtain ⟨rfl, _⟩ := hs.len_
 exact ⟨hb, A, c, rfl, hs⟩
theorem news_elt (w : World) (S : Nat → Prop) (t : TypeId) (k : Nat) (x1 x2 : ByteArray) :
  ∀ i y, [((k, x1.data.toList, x2.data.toList) : Elt)][i]? = some y → ∃ cs, RElt (w.alloc (.cells #[.int .i64 (k : Int), .string x1, .string x2] t)) S y cs ∧ ∀ j u, cs[j]? = some u → (w.alloc (.cells #[.int .i64 (k : Int), .string x1, .string x2] t)).cell? ((⟨w.heap.size, 0, none⟩ : Addr).add (i * 3 + j)) = some u :=
 news_pu (f := eltC) (size := 3) (fun _ => rfl) w S _ t _ rfl
set_option maxRecDepth 100000 in
set_option maxHeartbeats 4000000 in
theorem List_any (s : ByteArray) (hs : s.size ≤ 1000000000) (w : World) :
    Calls Tryz.prog 84 #[.string s] w (ListPost w (listF s.data.toList)) := by
  obtain ⟨o, ho⟩ : ∃ o, listF s.data.toList = o := ⟨_, rfl⟩
  rw [ho]
  have HO := hide ho
  obtain ⟨base, hbase⟩ : ∃ b, b = w.heap.size := ⟨_, rfl⟩
  have HBASE := hide hbase
  have hgs0 : base ≤ w.heap.size := by omega
  clear ho hbase
  go_enter Tryz.func84, Tryz.ntmps84
  go_wp2_with fail
  go_loopg [0, 4] s.size (fun g x v wr => ∃ (y : ByteArray) (out : List Elt), x = .string y ∧ y.size ≤ g ∧ g + out.length ≤ s.size ∧ Own RElt 3 72 wr base No v out ∧ Below base w wr ∧ base ≤ wr.heap.size ∧ Hid (o = preL out (listF y.data.toList)))
  case atStart => exact ⟨s, [], rfl, Nat.le_refl _, by simp, Own.nil _ _ _ _ _ _, Below.refl _ _, hgs0, hide (by rw [preL_nil, HO.out])⟩
  case round =>
    obtain ⟨y, out, rfl, hyg, hgo, hown, hb, hgs, H⟩ := hrel
    have hys := size_string y
    by_cases h0 : y.size = 0
    · have e1 : y.toList = [] := by rw [ByteArray.toList_eq]; exact List.eq_nil_of_length_eq_zero (by omega)
      have e2 : ¬ (0 : Int) < (y.size : Int) := by omega
      have HN := hide (show o = .ok out by rw [H.out, ← ByteArray.toList_eq, e1, listF_nil, preL, List.append_nil])
      have hsl := (Sl.ok RElt.ok).mono (hown.sl RElt.ok) (S' := Btw w.heap.size wr.heap.size) (fun _ _ => rfl) (fun k hk => by rcases hk with hk | hk; exact hk.elim; rw [HBASE.out] at hk; exact hk)
      obtain ⟨A, cp, hv⟩ := hsl.shape
      subst hv
      have HB := hide (HBASE.out ▸ hb)
      have HSL := hide hsl
      clear hb hsl hown hys h0
      go_wp2_with fail
      go_ret2
      exact ListPost.ok HN.out HB.out HSL.out
    · have e0 : ¬ y.toList = [] := by rw [ByteArray.toList_eq]; intro e; rw [e] at hys; simp at hys; omega
      have e1 : (y.toList == []) = false := by simpa using e0
      have e3 : y.toList.isEmpty = false := by simpa using e0
      have e2 : (0 : Int) < (y.size : Int) := by omega
      have hne : y.data.toList ≠ [] := by rw [← ByteArray.toList_eq]; exact e0
      have HNE := hide hne
      have HOWN := hide hown
      have HB := hide hb
      obtain ⟨A, cp, hv⟩ := (hown.sl RElt.ok).shape
      subst hv
      clear hys h0 e0 hne hown hb
      obtain ⟨r, hr⟩ : ∃ r, readF y.data.toList = r := ⟨_, rfl⟩
      have HR := hide hr
      clear hr
      obtain ⟨wo, rfl⟩ : ∃ wo : World, wo = wr := ⟨_, rfl⟩
      go_wp2_with fail
      refine (Read_any y (by omega) _).mono ?_
      rintro e w5 ⟨rfl, hb5⟩
      rw [HR.out]
      have HB5 := hide (HB.out.trans (hb5.mono hgs))
      have hs5 := hb5.size
      have HOWN5 := hide (HOWN.out.below RElt.ok (no_lt _) hb5)
      clear hb5
      cases r with
      | error k =>
        have hk : k ≠ 0 := fun h => read_err0 _ (h ▸ HR.out)
        have ht : (k != 0) = true := by simpa using hk
        have HN := hide (show o = .error k by rw [H.out, listF_error HNE.out HR.out]; rfl)
        rw [show readR (.error k) = .tuple #[.agg #[.int .i64 0, .string ⟨#[]⟩, .string ⟨#[]⟩], .string ⟨#[]⟩, .int .i64 k] from rfl]
        clear hk
        go_wp2_with fail
        go_ret2
        exact ListPost.err HN.out ((HBASE.out ▸ HB5.out).alloc (by have := HBASE.out; omega) _)
      | ok p =>
        obtain ⟨⟨t, c, raw⟩, q⟩ := p
        have hlen := read_len HR.out
        obtain ⟨x1, hx1⟩ : ∃ x : ByteArray, x = ⟨c.toArray⟩ := ⟨_, rfl⟩
        obtain ⟨x2, hx2⟩ : ∃ x : ByteArray, x = ⟨raw.toArray⟩ := ⟨_, rfl⟩
        obtain ⟨x3, hx3⟩ : ∃ x : ByteArray, x = ⟨q.toArray⟩ := ⟨_, rfl⟩
        have hd1 : c = x1.data.toList := by rw [hx1]
        have hd2 : raw = x2.data.toList := by rw [hx2]
        have hd3 : q = x3.data.toList := by rw [hx3]
        have hx3s : x3.size < y.size := by
          have := hlen.2.2
          rw [hd3, size_string, size_string] at this
          exact this
        rw [show readR (.ok ((t, c, raw), q)) = .tuple #[.agg #[.int .i64 (t : Int), .string x1, .string x2], .string x3, .int .i64 0] by rw [readR, eltV, hx1, hx2, hx3]]
        have HX := hide (show o = preL (out ++ [(t, x1.data.toList, x2.data.toList)]) (listF x3.data.toList) by rw [H.out, listF_pre HR.out, preL_app, hd1, hd2, hd3])
        clear hlen hx1 hx2 hx3 hd1 hd2 hd3
        go_upto_region 4 with fail
        obtain ⟨wA, hwA⟩ : ∃ W, W = w5.alloc (.cells #[.int .i64 (t : Int), .string x1, .string x2] 72) := ⟨_, rfl⟩
        have n0 : wA.cell? ⟨w5.heap.size, 0, none⟩ = some (.int .i64 (t : Int)) := by rw [hwA, World.cell?_alloc_new]; rfl
        have n1 : wA.cell? ⟨w5.heap.size, 1, none⟩ = some (.string x1) := by rw [hwA, World.cell?_alloc_new]; rfl
        have n2 : wA.cell? ⟨w5.heap.size, 2, none⟩ = some (.string x2) := by rw [hwA, World.cell?_alloc_new]; rfl
        have HBA := hide (show Below base w wA by rw [hwA]; exact HB5.out.alloc (by omega) _)
        have HOA := hide (show Own RElt 3 72 wA base No (.slice A out.length cp) out by rw [hwA]; exact HOWN5.out.alloc RElt.ok (no_lt _) _)
        have hzA : w5.heap.size < wA.heap.size := by rw [hwA]; simp
        rw [← hwA]
        clear hwA
        go_wp2_with (at_builtin; refine wpList_app RElt.ok _ rfl (.tmp 19) (.tmp 21) 114 rfl base 72 (.agg #[.int .i64 0, .string ⟨#[]⟩, .string ⟨#[]⟩]) 40 Tryz.underlying114 info_elt rfl (by decide) No _ out rfl (HOA.out.alloc RElt.ok (no_lt _) _) ⟨_, 0, none⟩ 1 1 [(t, x1.data.toList, x2.data.toList)] rfl rfl (news_elt _ _ _ t x1 x2) (no_lt _) (by simp; omega) (by simp [maxLen]; omega) (by simp; omega) ?_; intro v2 w2 hown2 hg2 hb2 hat2; have hsz2 := hb2.size; simp at hsz2)
        go_roundg x3.size
        case rel => exact ⟨x3, _, rfl, Nat.le_refl _, by simp; omega, hown2, (below_alloc HBA.out (by omega) _).trans hb2, by omega, HX⟩
        case measure => omega
set_option maxRecDepth 100000 in
set_option maxHeartbeats 4000000 in
theorem rList_any (s : ByteArray) (hs : s.size ≤ 1000000000) (w : World) :
    Calls Tryz.prog 82 #[.string s] w (ListPost w (listF s.data.toList)) := by
  obtain ⟨o, ho⟩ : ∃ o, listF s.data.toList = o := ⟨_, rfl⟩
  rw [ho]
  have HO := hide ho
  obtain ⟨base, hbase⟩ : ∃ b, b = w.heap.size := ⟨_, rfl⟩
  have HBASE := hide hbase
  have hgs0 : base ≤ w.heap.size := by omega
  clear ho hbase
  go_enter Tryz.func82, Tryz.ntmps82
  go_wp2_with fail
  go_loopg [0, 4] s.size (fun g x v wr => ∃ (y : ByteArray) (out : List Elt), x = .string y ∧ y.size ≤ g ∧ g + out.length ≤ s.size ∧ Own RElt 3 72 wr base No v out ∧ Below base w wr ∧ base ≤ wr.heap.size ∧ Hid (o = preL out (listF y.data.toList)))
  case atStart => exact ⟨s, [], rfl, Nat.le_refl _, by simp, Own.nil _ _ _ _ _ _, Below.refl _ _, hgs0, hide (by rw [preL_nil, HO.out])⟩
  case round =>
    obtain ⟨y, out, rfl, hyg, hgo, hown, hb, hgs, H⟩ := hrel
    have hys := size_string y
    by_cases h0 : y.size = 0
    · have e1 : y.toList = [] := by rw [ByteArray.toList_eq]; exact List.eq_nil_of_length_eq_zero (by omega)
      have e2 : ¬ (0 : Int) < (y.size : Int) := by omega
      have HN := hide (show o = .ok out by rw [H.out, ← ByteArray.toList_eq, e1, listF_nil, preL, List.append_nil])
      have hsl := (Sl.ok RElt.ok).mono (hown.sl RElt.ok) (S' := Btw w.heap.size wr.heap.size) (fun _ _ => rfl) (fun k hk => by rcases hk with hk | hk; exact hk.elim; rw [HBASE.out] at hk; exact hk)
      obtain ⟨A, cp, hv⟩ := hsl.shape
      subst hv
      have HB := hide (HBASE.out ▸ hb)
      have HSL := hide hsl
      clear hb hsl hown hys h0
      go_wp2_with fail
      go_ret2
      exact ListPost.ok HN.out HB.out HSL.out
    · have e0 : ¬ y.toList = [] := by rw [ByteArray.toList_eq]; intro e; rw [e] at hys; simp at hys; omega
      have e1 : (y.toList == []) = false := by simpa using e0
      have e3 : y.toList.isEmpty = false := by simpa using e0
      have e2 : (0 : Int) < (y.size : Int) := by omega
      have hne : y.data.toList ≠ [] := by rw [← ByteArray.toList_eq]; exact e0
      have HNE := hide hne
      have HOWN := hide hown
      have HB := hide hb
      obtain ⟨A, cp, hv⟩ := (hown.sl RElt.ok).shape
      subst hv
      clear hys h0 e0 hne hown hb
      obtain ⟨r, hr⟩ : ∃ r, readF y.data.toList = r := ⟨_, rfl⟩
      have HR := hide hr
      clear hr
      obtain ⟨wo, rfl⟩ : ∃ wo : World, wo = wr := ⟨_, rfl⟩
      go_wp2_with fail
      refine (rRead_any y (by omega) _).mono ?_
      rintro e w5 ⟨rfl, hb5⟩
      rw [HR.out]
      have HB5 := hide (HB.out.trans (hb5.mono hgs))
      have hs5 := hb5.size
      have HOWN5 := hide (HOWN.out.below RElt.ok (no_lt _) hb5)
      clear hb5
      cases r with
      | error k =>
        have hk : k ≠ 0 := fun h => read_err0 _ (h ▸ HR.out)
        have ht : (k != 0) = true := by simpa using hk
        have HN := hide (show o = .error k by rw [H.out, listF_error HNE.out HR.out]; rfl)
        rw [show readR (.error k) = .tuple #[.agg #[.int .i64 0, .string ⟨#[]⟩, .string ⟨#[]⟩], .string ⟨#[]⟩, .int .i64 k] from rfl]
        clear hk
        go_wp2_with fail
        go_ret2
        exact ListPost.err HN.out ((HBASE.out ▸ HB5.out).alloc (by have := HBASE.out; omega) _)
      | ok p =>
        obtain ⟨⟨t, c, raw⟩, q⟩ := p
        have hlen := read_len HR.out
        obtain ⟨x1, hx1⟩ : ∃ x : ByteArray, x = ⟨c.toArray⟩ := ⟨_, rfl⟩
        obtain ⟨x2, hx2⟩ : ∃ x : ByteArray, x = ⟨raw.toArray⟩ := ⟨_, rfl⟩
        obtain ⟨x3, hx3⟩ : ∃ x : ByteArray, x = ⟨q.toArray⟩ := ⟨_, rfl⟩
        have hd1 : c = x1.data.toList := by rw [hx1]
        have hd2 : raw = x2.data.toList := by rw [hx2]
        have hd3 : q = x3.data.toList := by rw [hx3]
        have hx3s : x3.size < y.size := by
          have := hlen.2.2
          rw [hd3, size_string, size_string] at this
          exact this
        rw [show readR (.ok ((t, c, raw), q)) = .tuple #[.agg #[.int .i64 (t : Int), .string x1, .string x2], .string x3, .int .i64 0] by rw [readR, eltV, hx1, hx2, hx3]]
        have HX := hide (show o = preL (out ++ [(t, x1.data.toList, x2.data.toList)]) (listF x3.data.toList) by rw [H.out, listF_pre HR.out, preL_app, hd1, hd2, hd3])
        clear hlen hx1 hx2 hx3 hd1 hd2 hd3
        go_upto_region 4 with fail
        obtain ⟨wA, hwA⟩ : ∃ W, W = w5.alloc (.cells #[.int .i64 (t : Int), .string x1, .string x2] 72) := ⟨_, rfl⟩
        have n0 : wA.cell? ⟨w5.heap.size, 0, none⟩ = some (.int .i64 (t : Int)) := by rw [hwA, World.cell?_alloc_new]; rfl
        have n1 : wA.cell? ⟨w5.heap.size, 1, none⟩ = some (.string x1) := by rw [hwA, World.cell?_alloc_new]; rfl
        have n2 : wA.cell? ⟨w5.heap.size, 2, none⟩ = some (.string x2) := by rw [hwA, World.cell?_alloc_new]; rfl
        have HBA := hide (show Below base w wA by rw [hwA]; exact HB5.out.alloc (by omega) _)
        have HOA := hide (show Own RElt 3 72 wA base No (.slice A out.length cp) out by rw [hwA]; exact HOWN5.out.alloc RElt.ok (no_lt _) _)
        have hzA : w5.heap.size < wA.heap.size := by rw [hwA]; simp
        rw [← hwA]
        clear hwA
        go_wp2_with (at_builtin; refine wpList_app RElt.ok _ rfl (.tmp 20) (.tmp 22) 114 rfl base 72 (.agg #[.int .i64 0, .string ⟨#[]⟩, .string ⟨#[]⟩]) 40 Tryz.underlying114 info_elt rfl (by decide) No _ out rfl (HOA.out.alloc RElt.ok (no_lt _) _) ⟨_, 0, none⟩ 1 1 [(t, x1.data.toList, x2.data.toList)] rfl rfl (news_elt _ _ _ t x1 x2) (no_lt _) (by simp; omega) (by simp [maxLen]; omega) (by simp; omega) ?_; intro v2 w2 hown2 hg2 hb2 hat2; have hsz2 := hb2.size; simp at hsz2)
        go_roundg x3.size
        case rel => exact ⟨x3, _, rfl, Nat.le_refl _, by simp; omega, hown2, (below_alloc HBA.out (by omega) _).trans hb2, by omega, HX⟩
        case measure => omega
end Go.Proofs.YtahamclodagihaaGreatDoor
namespace Go.Proofs.YtahamclodagihaaGreatDoor
open Go.RowKit
end Go.Proofs.YtahamclodagihaaGreatDoor
namespace Go.Proofs.YtahamclodagihaaGreatDoor
open Go.RowKit
def wrapG (t : Nat) (xs : List (List UInt8)) : List UInt8 × Int := if t % 32 = 31 then ([], 5) else wrapF t xs
theorem sl_lit (w : World) (C : Array Value) (t : TypeId) (l : List UInt8) (hC : C.toList = l.map fun b => Value.int .u8 (b.toNat : Int)) (hl : l.length ≤ maxLen) :
  Sl RByte 1 (w.alloc (.cells C t)) (Lt (w.alloc (.cells C t)).heap.size) l [.slice (some ⟨w.heap.size, 0, none⟩) l.length l.length] := by
 refine ⟨_, _, rfl, Nat.le_refl _, hl, fun _ => ⟨w.heap.size, 0, rfl, by show _ < _; simp, fun i x hx => ?_⟩⟩
 obtain ⟨cs, h1, h2⟩ := news_bytes w (Lt (w.alloc (.cells C t)).heap.size) C t l hC i x hx
 refine ⟨cs, h1, fun j u hu => ?_⟩
 have := h2 j u hu
 rw [Addr.add_lit] at this
 exact this
theorem conv_lit (w : World) (C : Array Value) (l : List UInt8) (hC : C.toList = l.map fun b => Value.int .u8 (b.toNat : Int)) (hl : l.length ≤ maxLen) (y : ByteArray) (hy : y = ⟨l.toArray⟩) :
  (convert 63 9 (.slice (some ⟨w.heap.size, 0, none⟩) l.length l.length)).run Tryz.prog (w.alloc (.cells C 5)) = .ok (.string y) (w.alloc (.cells C 5)) := by
 subst hy
 exact run_bts_str (P := Tryz.prog) _ 63 9 5 Tryz.underlying63 Tryz.underlying5 Tryz.underlying9 _ _ _ (sl_lit w C 5 l hC hl)
set_option maxRecDepth 100000 in
set_option maxHeartbeats 8000000 in
theorem rWrap_any (t : Nat) (ht : t < 256) (xs : List (List UInt8)) (A : Option Addr) (c : Nat) (hx : xs.flatten.length ≤ 1000000000000) (w : World) (h : Sl RStr 1 w (Lt w.heap.size) xs [.slice A xs.length c]) :
  Calls Tryz.prog 117 #[.int .i64 (t : Int), .slice A xs.length c] w fun e w' => e = .returned (wrapR (wrapG t xs)) ∧ Below w.heap.size w w' := by
 obtain ⟨-, hnc, hcm⟩ := h.len_
 unfold maxLen at hcm
 have HS := hide h
 obtain ⟨r, hr⟩ : ∃ r, wrapG t xs = r := ⟨_, rfl⟩
 rw [hr]
 have HR := hide hr
 obtain ⟨m, hm⟩ : ∃ m, t % 32 = m := ⟨_, rfl⟩
 have b31 : (t : Int) % 32 = (m : Int) := by omega
 have ht0 : (0 : Int) ≤ (t : Int) := by omega
 have ht255 : (t : Int) ≤ 255 := by omega
 clear h hr
 by_cases h31 : m = 31
 ·have t31 : ((m : Int) == 31) = true := by rw [h31]; rfl
  have HN := hide (show r = ([], 5) by rw [← HR.out, wrapG, if_pos (by omega)])
  clear h31 hm
  go_enter Tryz.func117, Tryz.ntmps117
  go_wp2_with fail
  go_ret2
  exact ⟨by rw [HN.out]; rfl, Below.refl _ _⟩
 ·have t31 : ((m : Int) == 31) = false := beq_false_of_ne (by omega)
  have HR1 := hide (show r = wrapF t xs by rw [← HR.out, wrapG, if_neg (by omega)])
  clear h31 hm
  go_enter Tryz.func117, Tryz.ntmps117
  go_wp2_with fail
  clear b31
  go_loopw [6, 24] (fun s i wr => w = wr ∧ ∃ k : Nat, k ≤ xs.length ∧ i = .int .i64 k ∧ s = .string ⟨(xs.take k).flatten.toArray⟩) (fun _ i _ => xs.length - (intOf i).toNat)
  case atStart => exact ⟨rfl, 0, Nat.zero_le _, rfl, rfl⟩
  case round =>
   obtain ⟨rfl, k, hk, rfl, rfl⟩ := hrel
   by_cases hkl : k < xs.length
   ·obtain ⟨bk, o, hA, hb, hc⟩ := HS.out.strAt hkl
    subst hA
    have hfl : (xs.take (k + 1)).flatten = (xs.take k).flatten ++ xs[k] := by rw [List.take_succ_eq_append_getElem hkl, List.flatten_append]; simp
    have hle := flat_take_le xs (k + 1)
    rw [hfl, List.length_append] at hle
    obtain ⟨a, ha⟩ : ∃ a : ByteArray, a = ⟨(xs.take k).flatten.toArray⟩ := ⟨_, rfl⟩
    obtain ⟨b, hb'⟩ : ∃ b : ByteArray, b = ⟨xs[k].toArray⟩ := ⟨_, rfl⟩
    have hza : a.size = (xs.take k).flatten.length := by rw [ha, ba_mk]
    have hzb : b.size = xs[k].length := by rw [hb', ba_mk]
    have HAB := hide (show a ++ b = ⟨(xs.take (k + 1)).flatten.toArray⟩ by rw [ha, hb', ba_app, hfl])
    rw [← ha]
    rw [← hb'] at hc
    have hbs : ¬ 9223372036854775807 < a.size + b.size := by omega
    obtain ⟨y, hy⟩ : ∃ y : ByteArray, a ++ b = y := ⟨_, rfl⟩
    have HY := hide hy
    clear hfl hle ha hb' hza hzb
    go_wp2_with fail
    go_roundw
    case rel => exact ⟨trivial, k + 1, by omega, by go_num, by rw [← HAB.out, HY.out]⟩
    case measure => simp [intOf]; omega
   ·have hke : k = xs.length := by omega
    subst hke
    rw [List.take_length]
    obtain ⟨y, hy⟩ : ∃ y : ByteArray, y = ⟨xs.flatten.toArray⟩ := ⟨_, rfl⟩
    rw [← hy]
    obtain ⟨m, hm⟩ : ∃ m, xs.flatten.length = m := ⟨_, rfl⟩
    have hys : y.size = m := by rw [hy, ba_mk, hm]
    have HY := hide hy
    have HM := hide hm
    clear hy hm hk
    by_cases hbig : 131072 < m
    ·have HN := hide (show r = ([], 6) by rw [HR1.out, wrapF, if_pos (by rw [HM.out]; exact hbig)])
     go_wp2_with fail
     go_ret2
     exact ⟨by rw [HN.out]; rfl, Below.refl _ _⟩
    ·have HR2 := hide (show r = (wrapW t xs.flatten, 0) by rw [HR1.out, wrapF, if_neg (by rw [HM.out]; exact hbig)])
     have ut := u8_of t
     obtain ⟨c0, hc0⟩ : ∃ c0, UInt8.ofNat t = c0 := ⟨_, rfl⟩
     rw [hc0] at ut
     have HC0 := hide hc0
     have um := u8_of m
     obtain ⟨c1, hc1⟩ : ∃ c1, UInt8.ofNat m = c1 := ⟨_, rfl⟩
     rw [hc1] at um
     have hmi : (m : Int) ≤ 131072 := by omega
     have hb0 := Below.refl w.heap.size w
     clear hc0
     by_cases h1 : m < 128
     ·have HL := hide (show lenB m = [c1] by rw [lenB, if_pos h1, hc1])
      have h1i : ¬ (128 : Int) ≤ (m : Int) := by omega
      have h2i : ¬ (256 : Int) ≤ (m : Int) := by omega
      have h3i : ¬ (65536 : Int) ≤ (m : Int) := by omega
      clear hc1 hbig h1
      have hcv : (convert 63 9 (.slice (some ⟨w.heap.size, 0, none⟩) 2 2)).run Tryz.prog (World.alloc w (.cells #[.int .u8 (c0.toNat : Int), .int .u8 (c1.toNat : Int)] 5)) = .ok (.string ⟨([c0, c1]).toArray⟩) (World.alloc w (.cells #[.int .u8 (c0.toNat : Int), .int .u8 (c1.toNat : Int)] 5)) := by
       have := conv_lit w #[.int .u8 (c0.toNat : Int), .int .u8 (c1.toNat : Int)] [c0, c1] rfl (by simp [maxLen]) ⟨([c0, c1]).toArray⟩ rfl
       first | exact this | (rw [World.size_alloc] at this; exact this)
      obtain ⟨yh, hyh⟩ : ∃ yh : ByteArray, yh = ⟨([c0, c1]).toArray⟩ := ⟨_, rfl⟩
      have hyhs : yh.size = 2 := by rw [hyh]; rfl
      rw [← hyh] at hcv
      have hb9 : Below w.heap.size w (World.alloc w (.cells #[.int .u8 (c0.toNat : Int), .int .u8 (c1.toNat : Int)] 5)) := hb0.alloc (by omega) _
      go_upto_region 19 with fail
      obtain ⟨W9, hW9⟩ : ∃ W, W = World.alloc w (.cells #[.int .u8 (c0.toNat : Int), .int .u8 (c1.toNat : Int)] 5) := ⟨_, rfl⟩
      rw [← hW9] at hcv hb9 ⊢
      have hbs : ¬ 9223372036854775807 < yh.size + y.size := by omega
      obtain ⟨z, hz⟩ : ∃ z : ByteArray, z = yh ++ y := ⟨_, rfl⟩
      have hz2 : yh ++ y = z := hz.symm
      have HZ := hide (show z = ⟨(([c0, c1]) ++ xs.flatten).toArray⟩ by rw [hz, hyh, HY.out]; exact ba_app _ _)
      have HB9 := hide hb9
      clear hW9 hz hyh hyhs hb9 hb0
      go_wp2_with fail
      go_ret2
      refine ⟨?_, HB9.out⟩
      rw [HR2.out, wrapR, HZ.out]
      simp only [wrapW, HM.out, HL.out, HC0.out]
      rfl
     ·have hb0 := hb0.alloc (Nat.le_refl _) (.cells #[.int .u8 (c0.toNat : Int), .int .u8 (c1.toNat : Int)] 5)
      have hsz0 : w.heap.size ≤ (w.alloc (.cells #[.int .u8 (c0.toNat : Int), .int .u8 (c1.toNat : Int)] 5)).heap.size := by simp
      by_cases h2 : m < 256
      ·have HL := hide (show lenB m = [129, c1] by rw [lenB, if_neg h1, if_pos h2, hc1])
       have h1i : (128 : Int) ≤ (m : Int) := by omega
       have h2i : ¬ (256 : Int) ≤ (m : Int) := by omega
       have h3i : ¬ (65536 : Int) ≤ (m : Int) := by omega
       clear hc1 hbig h1 h2
       have hcv : (convert 63 9 (.slice (some ⟨(w.heap.size + 1), 0, none⟩) 3 3)).run Tryz.prog (World.alloc (w.alloc (.cells #[.int .u8 (c0.toNat : Int), .int .u8 (c1.toNat : Int)] 5)) (.cells #[.int .u8 (c0.toNat : Int), .int .u8 129, .int .u8 (c1.toNat : Int)] 5)) = .ok (.string ⟨([c0, 129, c1]).toArray⟩) (World.alloc (w.alloc (.cells #[.int .u8 (c0.toNat : Int), .int .u8 (c1.toNat : Int)] 5)) (.cells #[.int .u8 (c0.toNat : Int), .int .u8 129, .int .u8 (c1.toNat : Int)] 5)) := by
        have := conv_lit (w.alloc (.cells #[.int .u8 (c0.toNat : Int), .int .u8 (c1.toNat : Int)] 5)) #[.int .u8 (c0.toNat : Int), .int .u8 129, .int .u8 (c1.toNat : Int)] [c0, 129, c1] rfl (by simp [maxLen]) ⟨([c0, 129, c1]).toArray⟩ rfl
        first | exact this | (rw [World.size_alloc] at this; exact this)
       obtain ⟨yh, hyh⟩ : ∃ yh : ByteArray, yh = ⟨([c0, 129, c1]).toArray⟩ := ⟨_, rfl⟩
       have hyhs : yh.size = 3 := by rw [hyh]; rfl
       rw [← hyh] at hcv
       have hb9 : Below w.heap.size w (World.alloc (w.alloc (.cells #[.int .u8 (c0.toNat : Int), .int .u8 (c1.toNat : Int)] 5)) (.cells #[.int .u8 (c0.toNat : Int), .int .u8 129, .int .u8 (c1.toNat : Int)] 5)) := hb0.alloc (by omega) _
       go_upto_region 19 with fail
       obtain ⟨W9, hW9⟩ : ∃ W, W = World.alloc (w.alloc (.cells #[.int .u8 (c0.toNat : Int), .int .u8 (c1.toNat : Int)] 5)) (.cells #[.int .u8 (c0.toNat : Int), .int .u8 129, .int .u8 (c1.toNat : Int)] 5) := ⟨_, rfl⟩
       rw [← hW9] at hcv hb9 ⊢
       have hbs : ¬ 9223372036854775807 < yh.size + y.size := by omega
       obtain ⟨z, hz⟩ : ∃ z : ByteArray, z = yh ++ y := ⟨_, rfl⟩
       have hz2 : yh ++ y = z := hz.symm
       have HZ := hide (show z = ⟨(([c0, 129, c1]) ++ xs.flatten).toArray⟩ by rw [hz, hyh, HY.out]; exact ba_app _ _)
       have HB9 := hide hb9
       clear hW9 hz hyh hyhs hb9 hb0
       go_wp2_with fail
       go_ret2
       refine ⟨?_, HB9.out⟩
       rw [HR2.out, wrapR, HZ.out]
       simp only [wrapW, HM.out, HL.out, HC0.out]
       rfl
      ·obtain ⟨q8, hq8⟩ : ∃ q8, m / 256 = q8 := ⟨_, rfl⟩
       have um2 := u8_of q8
       rw [show (q8 : Int) = (m : Int) / 256 by omega] at um2
       obtain ⟨c2, hc2⟩ : ∃ c2, UInt8.ofNat q8 = c2 := ⟨_, rfl⟩
       rw [hc2] at um2
       have h1i : (128 : Int) ≤ (m : Int) := by omega
       have h2i : (256 : Int) ≤ (m : Int) := by omega
       by_cases h3 : m < 65536
       ·have HL := hide (show lenB m = [130, c2, c1] by rw [lenB, if_neg h1, if_neg h2, if_pos h3, hc1, hq8, hc2])
        have h3i : ¬ (65536 : Int) ≤ (m : Int) := by omega
        clear hc1 hc2 hq8 hbig h1 h2 h3
        have hcv : (convert 63 9 (.slice (some ⟨(w.heap.size + 1), 0, none⟩) 4 4)).run Tryz.prog (World.alloc (w.alloc (.cells #[.int .u8 (c0.toNat : Int), .int .u8 (c1.toNat : Int)] 5)) (.cells #[.int .u8 (c0.toNat : Int), .int .u8 130, .int .u8 (c2.toNat : Int), .int .u8 (c1.toNat : Int)] 5)) = .ok (.string ⟨([c0, 130, c2, c1]).toArray⟩) (World.alloc (w.alloc (.cells #[.int .u8 (c0.toNat : Int), .int .u8 (c1.toNat : Int)] 5)) (.cells #[.int .u8 (c0.toNat : Int), .int .u8 130, .int .u8 (c2.toNat : Int), .int .u8 (c1.toNat : Int)] 5)) := by
         have := conv_lit (w.alloc (.cells #[.int .u8 (c0.toNat : Int), .int .u8 (c1.toNat : Int)] 5)) #[.int .u8 (c0.toNat : Int), .int .u8 130, .int .u8 (c2.toNat : Int), .int .u8 (c1.toNat : Int)] [c0, 130, c2, c1] rfl (by simp [maxLen]) ⟨([c0, 130, c2, c1]).toArray⟩ rfl
         first | exact this | (rw [World.size_alloc] at this; exact this)
        obtain ⟨yh, hyh⟩ : ∃ yh : ByteArray, yh = ⟨([c0, 130, c2, c1]).toArray⟩ := ⟨_, rfl⟩
        have hyhs : yh.size = 4 := by rw [hyh]; rfl
        rw [← hyh] at hcv
        have hb9 : Below w.heap.size w (World.alloc (w.alloc (.cells #[.int .u8 (c0.toNat : Int), .int .u8 (c1.toNat : Int)] 5)) (.cells #[.int .u8 (c0.toNat : Int), .int .u8 130, .int .u8 (c2.toNat : Int), .int .u8 (c1.toNat : Int)] 5)) := hb0.alloc (by omega) _
        go_upto_region 19 with fail
        obtain ⟨W9, hW9⟩ : ∃ W, W = World.alloc (w.alloc (.cells #[.int .u8 (c0.toNat : Int), .int .u8 (c1.toNat : Int)] 5)) (.cells #[.int .u8 (c0.toNat : Int), .int .u8 130, .int .u8 (c2.toNat : Int), .int .u8 (c1.toNat : Int)] 5) := ⟨_, rfl⟩
        rw [← hW9] at hcv hb9 ⊢
        have hbs : ¬ 9223372036854775807 < yh.size + y.size := by omega
        obtain ⟨z, hz⟩ : ∃ z : ByteArray, z = yh ++ y := ⟨_, rfl⟩
        have hz2 : yh ++ y = z := hz.symm
        have HZ := hide (show z = ⟨(([c0, 130, c2, c1]) ++ xs.flatten).toArray⟩ by rw [hz, hyh, HY.out]; exact ba_app _ _)
        have HB9 := hide hb9
        clear hW9 hz hyh hyhs hb9 hb0
        go_wp2_with fail
        go_ret2
        refine ⟨?_, HB9.out⟩
        rw [HR2.out, wrapR, HZ.out]
        simp only [wrapW, HM.out, HL.out, HC0.out]
        rfl
       ·obtain ⟨q16, hq16⟩ : ∃ q16, m / 65536 = q16 := ⟨_, rfl⟩
        have um3 := u8_of q16
        rw [show (q16 : Int) = (m : Int) / 65536 by omega] at um3
        obtain ⟨c3, hc3⟩ : ∃ c3, UInt8.ofNat q16 = c3 := ⟨_, rfl⟩
        rw [hc3] at um3
        have HL := hide (show lenB m = [131, c3, c2, c1] by rw [lenB, if_neg h1, if_neg h2, if_neg h3, hc1, hq8, hq16, hc2, hc3])
        have h3i : (65536 : Int) ≤ (m : Int) := by omega
        clear hc1 hc2 hc3 hq8 hq16 hbig h1 h2 h3
        have hcv : (convert 63 9 (.slice (some ⟨(w.heap.size + 1), 0, none⟩) 5 5)).run Tryz.prog (World.alloc (w.alloc (.cells #[.int .u8 (c0.toNat : Int), .int .u8 (c1.toNat : Int)] 5)) (.cells #[.int .u8 (c0.toNat : Int), .int .u8 131, .int .u8 (c3.toNat : Int), .int .u8 (c2.toNat : Int), .int .u8 (c1.toNat : Int)] 5)) = .ok (.string ⟨([c0, 131, c3, c2, c1]).toArray⟩) (World.alloc (w.alloc (.cells #[.int .u8 (c0.toNat : Int), .int .u8 (c1.toNat : Int)] 5)) (.cells #[.int .u8 (c0.toNat : Int), .int .u8 131, .int .u8 (c3.toNat : Int), .int .u8 (c2.toNat : Int), .int .u8 (c1.toNat : Int)] 5)) := by
         have := conv_lit (w.alloc (.cells #[.int .u8 (c0.toNat : Int), .int .u8 (c1.toNat : Int)] 5)) #[.int .u8 (c0.toNat : Int), .int .u8 131, .int .u8 (c3.toNat : Int), .int .u8 (c2.toNat : Int), .int .u8 (c1.toNat : Int)] [c0, 131, c3, c2, c1] rfl (by simp [maxLen]) ⟨([c0, 131, c3, c2, c1]).toArray⟩ rfl
         first | exact this | (rw [World.size_alloc] at this; exact this)
        obtain ⟨yh, hyh⟩ : ∃ yh : ByteArray, yh = ⟨([c0, 131, c3, c2, c1]).toArray⟩ := ⟨_, rfl⟩
        have hyhs : yh.size = 5 := by rw [hyh]; rfl
        rw [← hyh] at hcv
        have hb9 : Below w.heap.size w (World.alloc (w.alloc (.cells #[.int .u8 (c0.toNat : Int), .int .u8 (c1.toNat : Int)] 5)) (.cells #[.int .u8 (c0.toNat : Int), .int .u8 131, .int .u8 (c3.toNat : Int), .int .u8 (c2.toNat : Int), .int .u8 (c1.toNat : Int)] 5)) := hb0.alloc (by omega) _
        go_upto_region 19 with fail
        obtain ⟨W9, hW9⟩ : ∃ W, W = World.alloc (w.alloc (.cells #[.int .u8 (c0.toNat : Int), .int .u8 (c1.toNat : Int)] 5)) (.cells #[.int .u8 (c0.toNat : Int), .int .u8 131, .int .u8 (c3.toNat : Int), .int .u8 (c2.toNat : Int), .int .u8 (c1.toNat : Int)] 5) := ⟨_, rfl⟩
        rw [← hW9] at hcv hb9 ⊢
        have hbs : ¬ 9223372036854775807 < yh.size + y.size := by omega
        obtain ⟨z, hz⟩ : ∃ z : ByteArray, z = yh ++ y := ⟨_, rfl⟩
        have hz2 : yh ++ y = z := hz.symm
        have HZ := hide (show z = ⟨(([c0, 131, c3, c2, c1]) ++ xs.flatten).toArray⟩ by rw [hz, hyh, HY.out]; exact ba_app _ _)
        have HB9 := hide hb9
        clear hW9 hz hyh hyhs hb9 hb0
        go_wp2_with fail
        go_ret2
        refine ⟨?_, HB9.out⟩
        rw [HR2.out, wrapR, HZ.out]
        simp only [wrapW, HM.out, HL.out, HC0.out]
        rfl
end Go.Proofs.YtahamclodagihaaGreatDoor
namespace Go.Proofs.YtahamclodagihaaGreatDoor
open Go.RowKit
theorem Own.lit {α : Type} {R : Rep α} {e : TypeId} {w : World} {base : Nat} (hbase : base ≤ w.heap.size) (x : α) (v : Value) (h : ∀ w', R w' No x [v]) :
    Own R 1 e (w.alloc (.cells #[v] e)) base No (.slice (some ⟨w.heap.size, 0, none⟩) 1 1) [x] := by
  refine ⟨[v], ⟨rfl, .inr ⟨w.heap.size, 1, #[v], rfl, hbase, heap_alloc_new w _, Nat.le_refl _, by simp [maxLen], rfl, rfl⟩⟩, fun g _ hg => hg.elim, fun i y hy => ?_⟩
  match i, hy with
  | 0, hy =>
    simp at hy; subst hy
    exact ⟨[v], h _, fun j u hu => by simpa using hu⟩
theorem Own.bytes {e : TypeId} {w : World} {base : Nat} {S : Nat → Prop} {v : Value} {l : List UInt8} (h : Own RByte 1 e w base S v l) (h0 : 0 < l.length) :
  ∃ g cap, v = .slice (some ⟨g, 0, none⟩) l.length cap ∧ base ≤ g ∧ g < w.heap.size ∧ l.length ≤ cap ∧ cap ≤ maxLen ∧ BytesAt w e g l := by
 obtain ⟨xs, ⟨hl, h1⟩, h2, h3⟩ := h
 rcases h1 with ⟨_, hn⟩ | ⟨g, cap, cur, hv, hb, hg, hnc, hcm, hsz, htk⟩
 ·omega
 ·refine ⟨g, cap, hv, hb, (Array.getElem?_eq_some_iff.1 hg).1, hnc, hcm, cur, (0, 0), hg, by omega, fun i hi => ?_, fun i _ => by simp [World.frozen?, hg]⟩
  obtain ⟨ys, hr, hc⟩ := h3 i l[i] (List.getElem?_eq_getElem hi)
  have hr' : ys = byteC l[i] := hr
  subst hr'
  have h4 := hc 0 _ rfl
  rw [← htk, List.getElem?_take] at h4
  split at h4
  ·simpa using h4
  ·cases h4
theorem Own.nats {e : TypeId} {w : World} {base : Nat} {S : Nat → Prop} {v : Value} {l : List Nat} (h : Own RNat 1 e w base S v l) (h0 : 0 < l.length) :
  ∃ g cap, v = .slice (some ⟨g, 0, none⟩) l.length cap ∧ base ≤ g ∧ g < w.heap.size ∧ l.length ≤ cap ∧ cap ≤ maxLen ∧ NatsAt w g l := by
 obtain ⟨g, cap, hv, hb, hg, hnc, hcm, _⟩ := h.natAt h0
 refine ⟨g, cap, hv, hb, hg, hnc, hcm, fun i hi => ?_⟩
 obtain ⟨g', cap', hv', _, _, _, _, hc⟩ := h.natAt hi
 rw [hv] at hv'
 cases hv'
 exact hc
end Go.Proofs.YtahamclodagihaaGreatDoor
namespace Go.Proofs.YtahamclodagihaaGreatDoor
open Go.RowKit
theorem sl_pu {α : Type} {f : α → List Value} {size : Nat} (hf : ∀ x, (f x).length = size) (w : World) (C : Array Value) (t : TypeId) (l : List α) (hC : C.toList = l.flatMap f) (hl : l.length ≤ maxLen) :
  Sl (Pu f) size (w.alloc (.cells C t)) (Lt (w.alloc (.cells C t)).heap.size) l [.slice (some ⟨w.heap.size, 0, none⟩) l.length l.length] := by
 refine ⟨_, _, rfl, Nat.le_refl _, hl, fun _ => ⟨w.heap.size, 0, rfl, by show _ < _; simp, fun i x hx => ?_⟩⟩
 obtain ⟨cs, h1, h2⟩ := news_pu hf w (Lt (w.alloc (.cells C t)).heap.size) C t l hC i x hx
 refine ⟨cs, h1, fun j u hu => ?_⟩
 have := h2 j u hu
 rw [Addr.add_lit] at this
 exact this
theorem wrapG_size (t : Nat) (xs : List (List UInt8)) : (wrapG t xs).1.length ≤ 131077 := by
 unfold wrapG wrapF
 split
 ·simp
 ·split
  ·simp
  ·rw [wrapW_len]; have := lenB_le xs.flatten.length; omega
set_option maxHeartbeats 1000000 in
theorem rWrap7_any (t : Nat) (ht : t < 256) (xs : List (List UInt8)) (A : Option Addr) (c : Nat) (hx : xs.flatten.length ≤ 1000000000000) (w : World) (h : Sl RStr 1 w (Lt w.heap.size) xs [.slice A xs.length c]) :
  Calls Tryz.prog 57 #[.int .i64 (t : Int), .slice A xs.length c] w fun e w' => e = .returned (.string ⟨(wrapG t xs).1.toArray⟩) ∧ Below w.heap.size w w' := by
 have HS := hide h
 obtain ⟨r, hr⟩ : ∃ r, wrapG t xs = r := ⟨_, rfl⟩
 rw [hr]
 have HR := hide hr
 clear h hr
 go_enter Tryz.func57, Tryz.ntmps57
 go_wp2_with fail
 refine (rWrap_any t ht xs A c hx w HS.out).mono ?_
 rintro e w1 ⟨rfl, hb1⟩
 rw [HR.out, wrapR]
 go_wp2_with fail
 go_ret
 exact ⟨rfl, hb1⟩
end Go.Proofs.YtahamclodagihaaGreatDoor
