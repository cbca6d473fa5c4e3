/- Elements: what Wrap writes, and its walk. -/
import Derived.Test.YtbafpgdmnkkclaaDoorTlvP
import Derived.Test.YtbafpgdmnkkclaaDoorOid1
import Derived.Test.YtbafpgdmnkkclaaDoorLib3
import Derived.Deep.RegionLaw
import Derived.Lib.Join
namespace Go.Proofs.YtbafpgdmnkkclaaDoor
open Go.RowKit

def wrapR (r : List UInt8 × Int) : Value := .tuple #[.string ⟨r.1.toArray⟩, .int .i64 r.2]
theorem join_flat : ∀ xs : List (List UInt8), Lib.join xs [] = xs.flatten
  | [] => rfl
  | [p] => by simp [Lib.join, List.intercalate]
  | p :: q :: r => by
    have ih := join_flat (q :: r)
    rw [List.flatten_cons, ← ih]
    simp [Lib.join, List.intercalate]
theorem Join_flat (A : Option Addr) (xs : List (List UInt8)) (c : Nat) (w : World) (S : Nat → Prop) (hS : ∀ k, S k → k < w.heap.size) (h : Sl RStr 1 w S xs [.slice A xs.length c]) (hN : xs.length ≤ 1000000) (hlen : xs.flatten.length ≤ 140737488355328) :
    Calls Tryd.prog 58 #[.slice A xs.length c, .string ⟨#[]⟩] w fun e w' => e = .returned (.string ⟨xs.flatten.toArray⟩) ∧ Below w.heap.size w w' := by
  rcases Nat.eq_zero_or_pos xs.length with h0 | h0
  · obtain rfl := List.eq_nil_of_length_eq_zero h0
    exact (Tryd.strings_Join_none A c ⟨#[]⟩ w).mono fun e w' ⟨he, hw⟩ => ⟨he, hw ▸ Below.refl _ _⟩
  · obtain ⟨bk, o, _, hA, hb, _, _⟩ := h.at_ h0
    subst hA
    obtain ⟨-, hc, hm⟩ := h.len_
    have hmap : (xs.map fun (x : List UInt8) => (⟨x.toArray⟩ : ByteArray)).map (·.data.toList) = xs := by
      rw [List.map_map]
      exact (List.map_congr_left (fun x _ => rfl)).trans (List.map_id _)
    have hl : (xs.map fun (x : List UInt8) => (⟨x.toArray⟩ : ByteArray)).length = xs.length := List.length_map _
    have hj : Lib.join ((xs.map fun (x : List UInt8) => (⟨x.toArray⟩ : ByteArray)).map (·.data.toList)) (⟨#[]⟩ : ByteArray).data.toList = xs.flatten := by
      rw [hmap]; exact join_flat xs
    have := Tryd.strings_Join bk o c (xs.map fun (x : List UInt8) => (⟨x.toArray⟩ : ByteArray)) ⟨#[]⟩ w (fun j x hx => by
      rw [List.getElem?_map] at hx
      obtain ⟨y, hy, rfl⟩ := Option.map_eq_some_iff.1 hx
      obtain ⟨hi, rfl⟩ := List.getElem?_eq_some_iff.1 hy
      obtain ⟨b', o', zs, hv', _, hr', hh'⟩ := h.at_ hi
      cases hv'
      have e : zs = strC xs[j] := hr'
      subst e
      simpa using hh' 0 _ rfl) (hS _ hb) (by rw [hl]; omega) (by rw [hl]; exact hc) (by rw [hj]; exact hlen)
    rw [hl] at this
    refine this.mono fun e w' ⟨he, hw⟩ => ⟨?_, hw⟩
    rw [he, hj]
theorem u8_of (n : Nat) : IntKind.u8.wrap (n : Int) = ((UInt8.ofNat n).toNat : Int) := by
  rw [IntKind.wrap_u8', UInt8.toNat_ofNat']; omega
theorem flat_take_le (xs : List (List UInt8)) (k : Nat) : (xs.take k).flatten.length ≤ xs.flatten.length := by
  have := congrArg (fun l => (List.flatten l).length) (List.take_append_drop k xs)
  simp only [List.flatten_append, List.length_append] at this
  omega
theorem flat_take_succ (xs : List (List UInt8)) (k : Nat) (hk : k < xs.length) : (xs.take (k + 1)).flatten.length = (xs.take k).flatten.length + xs[k].length := by
  rw [List.take_succ_eq_append_getElem hk, List.flatten_append, List.length_append]; simp
theorem Sl.strAt {w : World} {S : Nat → Prop} {A : Option Addr} {n c : Nat} {l : List (List UInt8)} (h : Sl RStr 1 w S l [.slice A n c]) {i : Nat} (hi : i < l.length) :
    ∃ b off, A = some ⟨b, off, none⟩ ∧ S b ∧ w.cell? ⟨b, off + i, none⟩ = some (.string ⟨l[i].toArray⟩) := by
  obtain ⟨b, off, xs, hA, hb, hr, hc⟩ := h.at_ hi
  have e : xs = strC l[i] := hr
  subst e
  exact ⟨b, off, hA, hb, by simpa using hc 0 _ rfl⟩
theorem info_u8t : (Tryd.prog.info? 5).map (fun i => (i.zero, i.size, i.bytes)) = some (some (.int .u8 0), 1, 1) := by kernel_rfl
theorem own_head {e : TypeId} {w : World} {base : Nat} (hbase : base ≤ w.heap.size) (k : UInt8) : Own RByte 1 e (w.alloc (.cells #[.int .u8 (k.toNat : Int)] e)) base No (.slice (some ⟨w.heap.size, 0, none⟩) 1 1) [k] := by
  refine ⟨[.int .u8 (k.toNat : Int)], ⟨rfl, .inr ⟨w.heap.size, 1, #[.int .u8 (k.toNat : Int)], rfl, hbase, heap_alloc_new w _, Nat.le_refl _, by simp [maxLen], rfl, rfl⟩⟩, fun g _ hg => hg.elim, fun i y hy => ?_⟩
  match i, hy with
  | 0, hy =>
    simp at hy; subst hy
    exact ⟨[.int .u8 (k.toNat : Int)], rfl, fun j u hu => by simpa using hu⟩

theorem shr8 (m : Nat) : Op.shift .shr .i64 (m : Int) .u64 8 = pure (.int .i64 ((m / 256 : Nat) : Int)) := by
  rw [shift_shr_any .i64 .u64 _ _ (by omega)]; rfl
theorem shr16 (m : Nat) : Op.shift .shr .i64 (m : Int) .u64 16 = pure (.int .i64 ((m / 65536 : Nat) : Int)) := by
  rw [shift_shr_any .i64 .u64 _ _ (by omega)]; rfl
theorem ba_mk (l : List UInt8) : (⟨l.toArray⟩ : ByteArray).size = l.length := by simp [ByteArray.size]
theorem ba_app (a b : List UInt8) : ((⟨a.toArray⟩ : ByteArray) ++ ⟨b.toArray⟩) = ⟨(a ++ b).toArray⟩ := by
  apply ByteArray.ext
  rw [ByteArray.data_append]
  simp
set_option maxRecDepth 100000 in
set_option maxHeartbeats 4000000 in
theorem Wrap_any (t : Nat) (ht : t < 256) (ht31 : t % 32 ≠ 31) (xs : List (List UInt8)) (A : Option Addr) (c : Nat) (hN : xs.length ≤ 1000000) (hx : ∀ x ∈ xs, x.length ≤ 1000000000) (w : World) (h : Sl RStr 1 w (Lt w.heap.size) xs [.slice A xs.length c]) :
    Calls Tryd.prog 44 #[.int .i64 (t : Int), .slice A xs.length c] w fun e w' => e = .returned (wrapR (wrapF t xs)) ∧ Below w.heap.size w w' := by
  have HS := hide h
  have HX := hide hx
  obtain ⟨r, hr⟩ : ∃ r, wrapF t xs = r := ⟨_, rfl⟩
  rw [hr]
  have HR := hide hr
  have b31 := and31 t ht
  have t31 : ((t : Int) % 32 == 31) = false := beq_false_of_ne (by omega)
  clear h hx hr
  go_enter Tryd.func44, Tryd.ntmps44
  go_wp2_with fail
  go_loopw [6, 23] (fun n i wr => ∃ k : Nat, k ≤ xs.length ∧ i = .int .i64 k ∧ n = .int .i64 ((xs.take k).flatten.length : Nat) ∧ (xs.take k).flatten.length ≤ 131072 ∧ w = wr) (fun _ i _ => xs.length - (intOf i).toNat)
  case atStart => exact ⟨0, Nat.zero_le _, rfl, rfl, Nat.zero_le _, rfl⟩
  case round =>
    obtain ⟨k, hk, rfl, rfl, hle, rfl⟩ := hrel
    by_cases hkl : k < xs.length
    · obtain ⟨bk, o, hA, hb, hc⟩ := HS.out.strAt hkl
      subst hA
      have hlx := HX.out xs[k] (List.getElem_mem _)
      have hts := flat_take_succ xs k hkl
      have htl := flat_take_le xs (k + 1)
      obtain ⟨x, hxk⟩ : ∃ x, xs[k] = x := ⟨_, rfl⟩
      rw [hxk] at hc hlx hts
      obtain ⟨n, hn⟩ : ∃ n, (xs.take k).flatten.length = n := ⟨_, rfl⟩
      rw [hn] at hle hts ⊢
      have hsz : (⟨x.toArray⟩ : ByteArray).size = x.length := by simp [ByteArray.size]
      clear hxk hn
      by_cases hbig : 131072 < n + x.length
      · have HR2 := hide (show r = ([], 6) by rw [← HR.out, wrapF, if_pos (by omega)])
        clear hts htl
        go_wp2_with fail
        go_ret2
        rw [HR2.out]
        exact ⟨rfl, Below.refl _ _⟩
      · go_wp2_with fail
        go_roundw
        case rel => exact ⟨k + 1, by omega, by go_num, by rw [hts]; go_num, by omega, by first | rfl | trivial⟩
        case measure => simp [intOf]; omega
    · have hke : k = xs.length := by omega
      subst hke
      rw [List.take_length] at hle ⊢
      obtain ⟨m, hm⟩ : ∃ m, xs.flatten.length = m := ⟨_, rfl⟩
      rw [hm] at hle ⊢
      have HM := hide hm
      have HR2 := hide (show r = (wrapW t xs.flatten, 0) by rw [← HR.out, wrapF, if_neg (by omega)])
      have ut := u8_of t
      obtain ⟨c0, hc0⟩ : ∃ c0, UInt8.ofNat t = c0 := ⟨_, rfl⟩
      rw [hc0] at ut
      have HC0 := hide hc0
      clear hm hc0
      obtain ⟨base, hbase⟩ : ∃ b, b = w.heap.size := ⟨_, rfl⟩
      have hown : Own RByte 1 5 (w.alloc (.cells #[.int .u8 (c0.toNat : Int)] 5)) base No (.slice (some ⟨w.heap.size, 0, none⟩) 1 1) [c0] := own_head (by omega) c0
      by_cases h1 : m < 128
      · have um := u8_of m
        obtain ⟨c1, hc1⟩ : ∃ c1, UInt8.ofNat m = c1 := ⟨_, rfl⟩
        rw [hc1] at um
        have HL := hide (show lenB m = [c1] by rw [lenB, if_pos h1, hc1])
        clear hc1
        have hba2 : base ≤ ((w.alloc (.cells #[.int .u8 (c0.toNat : Int)] 5)).alloc (.cells #[.int .u8 (c1.toNat : Int)] 5)).heap.size := by rw [World.size_alloc, World.size_alloc]; omega
        have hnews := news_bytes (w.alloc (.cells #[.int .u8 (c0.toNat : Int)] 5)) No #[.int .u8 (c1.toNat : Int)] 5 [c1] rfl
        rw [World.size_alloc] at hnews
        have hown3 := hown.alloc RByte.ok (no_lt _) (.cells #[.int .u8 (c1.toNat : Int)] 5)
        have HBS := hide hbase
        clear hbase hown
        go_upto_region 19 with (first
          | (at_builtin; refine wpList_app RByte.ok _ rfl (.tmp 54) (.tmp 57) 56 rfl base 5 (.int .u8 0) 1 Tryd.underlying56 info_u8t rfl (by decide) No _ [c0] rfl hown3 ⟨_, 0, none⟩ _ _ [c1] rfl rfl hnews (no_lt _) (by simp) (by simp [maxLen]) hba2 ?_; intro v2 w2 hown2 hg2 hb2 hat2; obtain ⟨A2, cq, hv2⟩ : ∃ A2 cq, v2 = .slice A2 2 cq := (hown2.sl RByte.ok).shape; subst hv2)
          | fail)
        have hb2' : Below w.heap.size w w2 := (((Below.refl w.heap.size w).alloc (Nat.le_refl _) _).alloc (by simp) _).trans (by rw [← HBS.out]; exact hb2)
        have hsl2 : Sl RByte 1 w2 (Lt w2.heap.size) ([c0] ++ [c1]) [.slice A2 2 cq] := (Sl.ok RByte.ok).mono (hown2.sl RByte.ok) (fun _ _ => rfl) (fun k hk => by rcases hk with hk | hk; exact hk.elim; exact hk.2)
        have hconv := fun W (h : Below w2.heap.size w2 W) => run_bts_str (P := Tryd.prog) W 56 9 5 Tryd.underlying56 Tryd.underlying5 Tryd.underlying9 _ (.slice A2 2 cq) ([c0] ++ [c1]) ((Sl.ok RByte.ok).mono hsl2 (fun k hk => h.block k hk) (fun _ hk => hk))
        have hcd := hconv w2.drew (Below.refl _ _).drew
        have hsj : Sl RStr 1 w2.drew (Lt w2.drew.heap.size) xs [.slice A xs.length c] := (Sl.ok RStr.ok).mono HS.out (fun k hk => ((hb2'.drew).block k hk)) (fun k hk => Nat.lt_of_lt_of_le hk hb2'.size)
        have j0 := Join_flat A xs c w2.drew _ (fun _ h => h) hsj hN (by rw [HM.out]; omega)
        obtain ⟨yt, hyt⟩ : ∃ yt : ByteArray, yt = ⟨xs.flatten.toArray⟩ := ⟨_, rfl⟩
        rw [← hyt] at j0
        have J := hide j0
        have hyts : yt.size = m := by rw [hyt, ba_mk, HM.out]
        clear j0
        have HBD := hide (show Below w.heap.size w w2.drew from hb2'.drew)
        obtain ⟨yh, hyh⟩ : ∃ yh : ByteArray, yh = ⟨([c0] ++ [c1]).toArray⟩ := ⟨_, rfl⟩
        have hyhs : yh.size = 2 := by rw [hyh]; rfl
        have hcd' : (convert 56 9 (.slice A2 2 cq)).run Tryd.prog w2.drew = .ok (.string yh) w2.drew := by rw [hyh]; exact hcd
        have hs0 : ((convert 56 9 (.slice A2 2 cq)).run Tryd.prog w2.drew = .ok (.string yh) w2.drew ∧ Below w2.drew.heap.size w2.drew w2.drew) := ⟨hcd', Below.refl _ _⟩
        have HCV := hide (show ∀ W, Below w2.drew.heap.size w2.drew W → (convert 56 9 (.slice A2 2 cq)).run Tryd.prog W = .ok (.string yh) W from fun W hW => by rw [hyh]; exact hconv W ((Below.refl _ _).drew.trans hW))
        clear hcd hconv hsl2 hb2' hown2 hg2 hb2 hat2 hsj hown3 hnews hba2
        have hbs : ¬ 9223372036854775807 < yh.size + yt.size := by omega
        obtain ⟨y, hy⟩ : ∃ y : ByteArray, y = yh ++ yt := ⟨_, rfl⟩
        have hy2 : yh ++ yt = y := hy.symm
        have HY := hide (show y = ⟨(([c0] ++ [c1]) ++ xs.flatten).toArray⟩ by rw [hy, hyh, hyt]; exact ba_app _ _)
        have HFIN := hide (show Ending.returned (.tuple #[.string y, .int .i64 0]) = Ending.returned (wrapR r) by rw [HR2.out, wrapR, HY.out]; simp only [wrapW, HM.out, HL.out, HC0.out]; rfl)
        clear hy hyh hyt hyhs hyts
        go_region_held3 (fun W => (convert 56 9 (.slice A2 2 cq)).run Tryd.prog W = .ok (.string yh) W ∧ Below w2.drew.heap.size w2.drew W)
          (first | exact hs1 | exact hs0)
          (first
            | (go_at_call 58; refine J.out.mono ?_; rintro e wn ⟨rfl, hbn⟩; have hs1 : (convert 56 9 (.slice A2 2 cq)).run Tryd.prog wn = .ok (.string yh) wn ∧ Below w2.drew.heap.size w2.drew wn := ⟨HCV.out wn hbn, hbn⟩)
            | fail)
        all_goals
          go_wp2_with fail
          go_ret2
          exact ⟨HFIN.out, HBD.out.trans (hbn.mono HBD.out.size)⟩
      · have um := u8_of m
        obtain ⟨c1, hc1⟩ : ∃ c1, UInt8.ofNat m = c1 := ⟨_, rfl⟩
        rw [hc1] at um
        by_cases h2 : m < 256
        · have HL := hide (show lenB m = [129, c1] by rw [lenB, if_neg h1, if_pos h2, hc1])
          clear hc1
          have hba2 : base ≤ ((w.alloc (.cells #[.int .u8 (c0.toNat : Int)] 5)).alloc (.cells #[.int .u8 129, .int .u8 (c1.toNat : Int)] 5)).heap.size := by rw [World.size_alloc, World.size_alloc]; omega
          have hnews := news_bytes (w.alloc (.cells #[.int .u8 (c0.toNat : Int)] 5)) No #[.int .u8 129, .int .u8 (c1.toNat : Int)] 5 [129, c1] rfl
          rw [World.size_alloc] at hnews
          have hown3 := hown.alloc RByte.ok (no_lt _) (.cells #[.int .u8 129, .int .u8 (c1.toNat : Int)] 5)
          have HBS := hide hbase
          clear hbase hown
          go_upto_region 19 with (first
            | (at_builtin; refine wpList_app RByte.ok _ rfl (.tmp 62) (.tmp 65) 56 rfl base 5 (.int .u8 0) 1 Tryd.underlying56 info_u8t rfl (by decide) No _ [c0] rfl hown3 ⟨_, 0, none⟩ _ _ [129, c1] rfl rfl hnews (no_lt _) (by simp) (by simp [maxLen]) hba2 ?_; intro v2 w2 hown2 hg2 hb2 hat2; obtain ⟨A2, cq, hv2⟩ : ∃ A2 cq, v2 = .slice A2 3 cq := (hown2.sl RByte.ok).shape; subst hv2)
            | fail)
          have hb2' : Below w.heap.size w w2 := (((Below.refl w.heap.size w).alloc (Nat.le_refl _) _).alloc (by simp) _).trans (by rw [← HBS.out]; exact hb2)
          have hsl2 : Sl RByte 1 w2 (Lt w2.heap.size) ([c0] ++ [129, c1]) [.slice A2 3 cq] := (Sl.ok RByte.ok).mono (hown2.sl RByte.ok) (fun _ _ => rfl) (fun k hk => by rcases hk with hk | hk; exact hk.elim; exact hk.2)
          have hconv := fun W (h : Below w2.heap.size w2 W) => run_bts_str (P := Tryd.prog) W 56 9 5 Tryd.underlying56 Tryd.underlying5 Tryd.underlying9 _ (.slice A2 3 cq) ([c0] ++ [129, c1]) ((Sl.ok RByte.ok).mono hsl2 (fun k hk => h.block k hk) (fun _ hk => hk))
          have hcd := hconv w2.drew (Below.refl _ _).drew
          have hsj : Sl RStr 1 w2.drew (Lt w2.drew.heap.size) xs [.slice A xs.length c] := (Sl.ok RStr.ok).mono HS.out (fun k hk => ((hb2'.drew).block k hk)) (fun k hk => Nat.lt_of_lt_of_le hk hb2'.size)
          have j0 := Join_flat A xs c w2.drew _ (fun _ h => h) hsj hN (by rw [HM.out]; omega)
          obtain ⟨yt, hyt⟩ : ∃ yt : ByteArray, yt = ⟨xs.flatten.toArray⟩ := ⟨_, rfl⟩
          rw [← hyt] at j0
          have J := hide j0
          have hyts : yt.size = m := by rw [hyt, ba_mk, HM.out]
          clear j0
          have HBD := hide (show Below w.heap.size w w2.drew from hb2'.drew)
          obtain ⟨yh, hyh⟩ : ∃ yh : ByteArray, yh = ⟨([c0] ++ [129, c1]).toArray⟩ := ⟨_, rfl⟩
          have hyhs : yh.size = 3 := by rw [hyh]; rfl
          have hcd' : (convert 56 9 (.slice A2 3 cq)).run Tryd.prog w2.drew = .ok (.string yh) w2.drew := by rw [hyh]; exact hcd
          have hs0 : ((convert 56 9 (.slice A2 3 cq)).run Tryd.prog w2.drew = .ok (.string yh) w2.drew ∧ Below w2.drew.heap.size w2.drew w2.drew) := ⟨hcd', Below.refl _ _⟩
          have HCV := hide (show ∀ W, Below w2.drew.heap.size w2.drew W → (convert 56 9 (.slice A2 3 cq)).run Tryd.prog W = .ok (.string yh) W from fun W hW => by rw [hyh]; exact hconv W ((Below.refl _ _).drew.trans hW))
          clear hcd hconv hsl2 hb2' hown2 hg2 hb2 hat2 hsj hown3 hnews hba2
          have hbs : ¬ 9223372036854775807 < yh.size + yt.size := by omega
          obtain ⟨y, hy⟩ : ∃ y : ByteArray, y = yh ++ yt := ⟨_, rfl⟩
          have hy2 : yh ++ yt = y := hy.symm
          have HY := hide (show y = ⟨(([c0] ++ [129, c1]) ++ xs.flatten).toArray⟩ by rw [hy, hyh, hyt]; exact ba_app _ _)
          have HFIN := hide (show Ending.returned (.tuple #[.string y, .int .i64 0]) = Ending.returned (wrapR r) by rw [HR2.out, wrapR, HY.out]; simp only [wrapW, HM.out, HL.out, HC0.out]; rfl)
          clear hy hyh hyt hyhs hyts
          go_region_held3 (fun W => (convert 56 9 (.slice A2 3 cq)).run Tryd.prog W = .ok (.string yh) W ∧ Below w2.drew.heap.size w2.drew W)
            (first | exact hs1 | exact hs0)
            (first
              | (go_at_call 58; refine J.out.mono ?_; rintro e wn ⟨rfl, hbn⟩; have hs1 : (convert 56 9 (.slice A2 3 cq)).run Tryd.prog wn = .ok (.string yh) wn ∧ Below w2.drew.heap.size w2.drew wn := ⟨HCV.out wn hbn, hbn⟩)
              | fail)
          all_goals
            go_wp2_with fail
            go_ret2
            exact ⟨HFIN.out, HBD.out.trans (hbn.mono HBD.out.size)⟩
        · obtain ⟨q8, hq8⟩ : ∃ q8, m / 256 = q8 := ⟨_, rfl⟩
          have um2 := u8_of q8
          rw [show (q8 : Int) = (m : Int) / 256 by omega] at um2
          obtain ⟨c2, hc2⟩ : ∃ c2, UInt8.ofNat q8 = c2 := ⟨_, rfl⟩
          rw [hc2] at um2
          by_cases h3 : m < 65536
          · have HL := hide (show lenB m = [130, c2, c1] by rw [lenB, if_neg h1, if_neg h2, if_pos h3, hc1, hq8, hc2])
            have h1i : ¬ (m : Int) < 128 := by omega
            have h2i : ¬ (m : Int) < 256 := by omega
            have h3i : (m : Int) < 65536 := by omega
            clear hc1 hc2 hq8 h1 h2 h3 hle
            have hba2 : base ≤ ((w.alloc (.cells #[.int .u8 (c0.toNat : Int)] 5)).alloc (.cells #[.int .u8 130, .int .u8 (c2.toNat : Int), .int .u8 (c1.toNat : Int)] 5)).heap.size := by rw [World.size_alloc, World.size_alloc]; omega
            have hnews := news_bytes (w.alloc (.cells #[.int .u8 (c0.toNat : Int)] 5)) No #[.int .u8 130, .int .u8 (c2.toNat : Int), .int .u8 (c1.toNat : Int)] 5 [130, c2, c1] rfl
            rw [World.size_alloc] at hnews
            have hown3 := hown.alloc RByte.ok (no_lt _) (.cells #[.int .u8 130, .int .u8 (c2.toNat : Int), .int .u8 (c1.toNat : Int)] 5)
            have HBS := hide hbase
            clear hbase hown
            go_upto_region 19 with (first
              | (at_builtin; refine wpList_app RByte.ok _ rfl (.tmp 70) (.tmp 76) 56 rfl base 5 (.int .u8 0) 1 Tryd.underlying56 info_u8t rfl (by decide) No _ [c0] rfl hown3 ⟨_, 0, none⟩ _ _ [130, c2, c1] rfl rfl hnews (no_lt _) (by simp) (by simp [maxLen]) hba2 ?_; intro v2 w2 hown2 hg2 hb2 hat2; obtain ⟨A2, cq, hv2⟩ : ∃ A2 cq, v2 = .slice A2 4 cq := (hown2.sl RByte.ok).shape; subst hv2)
              | fail)
            have hb2' : Below w.heap.size w w2 := (((Below.refl w.heap.size w).alloc (Nat.le_refl _) _).alloc (by simp) _).trans (by rw [← HBS.out]; exact hb2)
            have hsl2 : Sl RByte 1 w2 (Lt w2.heap.size) ([c0] ++ [130, c2, c1]) [.slice A2 4 cq] := (Sl.ok RByte.ok).mono (hown2.sl RByte.ok) (fun _ _ => rfl) (fun k hk => by rcases hk with hk | hk; exact hk.elim; exact hk.2)
            have hconv := fun W (h : Below w2.heap.size w2 W) => run_bts_str (P := Tryd.prog) W 56 9 5 Tryd.underlying56 Tryd.underlying5 Tryd.underlying9 _ (.slice A2 4 cq) ([c0] ++ [130, c2, c1]) ((Sl.ok RByte.ok).mono hsl2 (fun k hk => h.block k hk) (fun _ hk => hk))
            have hcd := hconv w2.drew (Below.refl _ _).drew
            have hsj : Sl RStr 1 w2.drew (Lt w2.drew.heap.size) xs [.slice A xs.length c] := (Sl.ok RStr.ok).mono HS.out (fun k hk => ((hb2'.drew).block k hk)) (fun k hk => Nat.lt_of_lt_of_le hk hb2'.size)
            have j0 := Join_flat A xs c w2.drew _ (fun _ h => h) hsj hN (by rw [HM.out]; omega)
            obtain ⟨yt, hyt⟩ : ∃ yt : ByteArray, yt = ⟨xs.flatten.toArray⟩ := ⟨_, rfl⟩
            rw [← hyt] at j0
            have J := hide j0
            have hyts : yt.size = m := by rw [hyt, ba_mk, HM.out]
            clear j0
            have HBD := hide (show Below w.heap.size w w2.drew from hb2'.drew)
            obtain ⟨yh, hyh⟩ : ∃ yh : ByteArray, yh = ⟨([c0] ++ [130, c2, c1]).toArray⟩ := ⟨_, rfl⟩
            have hyhs : yh.size = 4 := by rw [hyh]; rfl
            have hcd' : (convert 56 9 (.slice A2 4 cq)).run Tryd.prog w2.drew = .ok (.string yh) w2.drew := by rw [hyh]; exact hcd
            have hs0 : ((convert 56 9 (.slice A2 4 cq)).run Tryd.prog w2.drew = .ok (.string yh) w2.drew ∧ Below w2.drew.heap.size w2.drew w2.drew) := ⟨hcd', Below.refl _ _⟩
            have HCV := hide (show ∀ W, Below w2.drew.heap.size w2.drew W → (convert 56 9 (.slice A2 4 cq)).run Tryd.prog W = .ok (.string yh) W from fun W hW => by rw [hyh]; exact hconv W ((Below.refl _ _).drew.trans hW))
            clear hcd hconv hsl2 hb2' hown2 hg2 hb2 hat2 hsj hown3 hnews hba2
            have hbs : ¬ 9223372036854775807 < yh.size + yt.size := by omega
            obtain ⟨y, hy⟩ : ∃ y : ByteArray, y = yh ++ yt := ⟨_, rfl⟩
            have hy2 : yh ++ yt = y := hy.symm
            have HY := hide (show y = ⟨(([c0] ++ [130, c2, c1]) ++ xs.flatten).toArray⟩ by rw [hy, hyh, hyt]; exact ba_app _ _)
            have HFIN := hide (show Ending.returned (.tuple #[.string y, .int .i64 0]) = Ending.returned (wrapR r) by rw [HR2.out, wrapR, HY.out]; simp only [wrapW, HM.out, HL.out, HC0.out]; rfl)
            clear hy hyh hyt hyhs hyts
            go_region_held3 (fun W => (convert 56 9 (.slice A2 4 cq)).run Tryd.prog W = .ok (.string yh) W ∧ Below w2.drew.heap.size w2.drew W)
              (first | exact hs1 | exact hs0)
              (first
                | (go_at_call 58; refine J.out.mono ?_; rintro e wn ⟨rfl, hbn⟩; have hs1 : (convert 56 9 (.slice A2 4 cq)).run Tryd.prog wn = .ok (.string yh) wn ∧ Below w2.drew.heap.size w2.drew wn := ⟨HCV.out wn hbn, hbn⟩)
                | fail)
            all_goals
              go_wp2_with fail
              go_ret2
              exact ⟨HFIN.out, HBD.out.trans (hbn.mono HBD.out.size)⟩
          · obtain ⟨q16, hq16⟩ : ∃ q16, m / 65536 = q16 := ⟨_, rfl⟩
            have um3 := u8_of q16
            rw [show (q16 : Int) = (m : Int) / 65536 by omega] at um3
            obtain ⟨c3, hc3⟩ : ∃ c3, UInt8.ofNat q16 = c3 := ⟨_, rfl⟩
            rw [hc3] at um3
            have HL := hide (show lenB m = [131, c3, c2, c1] by rw [lenB, if_neg h1, if_neg h2, if_neg h3, hc1, hq8, hq16, hc2, hc3])
            have h1i : ¬ (m : Int) < 128 := by omega
            have h2i : ¬ (m : Int) < 256 := by omega
            have h3i : ¬ (m : Int) < 65536 := by omega
            have hlei : (m : Int) ≤ 131072 := by omega
            clear hc1 hc2 hc3 hq8 hq16 h1 h2 h3 hle
            have hba2 : base ≤ ((w.alloc (.cells #[.int .u8 (c0.toNat : Int)] 5)).alloc (.cells #[.int .u8 131, .int .u8 (c3.toNat : Int), .int .u8 (c2.toNat : Int), .int .u8 (c1.toNat : Int)] 5)).heap.size := by rw [World.size_alloc, World.size_alloc]; omega
            have hnews := news_bytes (w.alloc (.cells #[.int .u8 (c0.toNat : Int)] 5)) No #[.int .u8 131, .int .u8 (c3.toNat : Int), .int .u8 (c2.toNat : Int), .int .u8 (c1.toNat : Int)] 5 [131, c3, c2, c1] rfl
            rw [World.size_alloc] at hnews
            have hown3 := hown.alloc RByte.ok (no_lt _) (.cells #[.int .u8 131, .int .u8 (c3.toNat : Int), .int .u8 (c2.toNat : Int), .int .u8 (c1.toNat : Int)] 5)
            have HBS := hide hbase
            clear hbase hown
            go_upto_region 19 with (first
              | (at_builtin; refine wpList_app RByte.ok _ rfl (.tmp 40) (.tmp 49) 56 rfl base 5 (.int .u8 0) 1 Tryd.underlying56 info_u8t rfl (by decide) No _ [c0] rfl hown3 ⟨_, 0, none⟩ _ _ [131, c3, c2, c1] rfl rfl hnews (no_lt _) (by simp) (by simp [maxLen]) hba2 ?_; intro v2 w2 hown2 hg2 hb2 hat2; obtain ⟨A2, cq, hv2⟩ : ∃ A2 cq, v2 = .slice A2 5 cq := (hown2.sl RByte.ok).shape; subst hv2)
              | fail)
            have hb2' : Below w.heap.size w w2 := (((Below.refl w.heap.size w).alloc (Nat.le_refl _) _).alloc (by simp) _).trans (by rw [← HBS.out]; exact hb2)
            have hsl2 : Sl RByte 1 w2 (Lt w2.heap.size) ([c0] ++ [131, c3, c2, c1]) [.slice A2 5 cq] := (Sl.ok RByte.ok).mono (hown2.sl RByte.ok) (fun _ _ => rfl) (fun k hk => by rcases hk with hk | hk; exact hk.elim; exact hk.2)
            have hconv := fun W (h : Below w2.heap.size w2 W) => run_bts_str (P := Tryd.prog) W 56 9 5 Tryd.underlying56 Tryd.underlying5 Tryd.underlying9 _ (.slice A2 5 cq) ([c0] ++ [131, c3, c2, c1]) ((Sl.ok RByte.ok).mono hsl2 (fun k hk => h.block k hk) (fun _ hk => hk))
            have hcd := hconv w2.drew (Below.refl _ _).drew
            have hsj : Sl RStr 1 w2.drew (Lt w2.drew.heap.size) xs [.slice A xs.length c] := (Sl.ok RStr.ok).mono HS.out (fun k hk => ((hb2'.drew).block k hk)) (fun k hk => Nat.lt_of_lt_of_le hk hb2'.size)
            have j0 := Join_flat A xs c w2.drew _ (fun _ h => h) hsj hN (by rw [HM.out]; omega)
            obtain ⟨yt, hyt⟩ : ∃ yt : ByteArray, yt = ⟨xs.flatten.toArray⟩ := ⟨_, rfl⟩
            rw [← hyt] at j0
            have J := hide j0
            have hyts : yt.size = m := by rw [hyt, ba_mk, HM.out]
            clear j0
            have HBD := hide (show Below w.heap.size w w2.drew from hb2'.drew)
            obtain ⟨yh, hyh⟩ : ∃ yh : ByteArray, yh = ⟨([c0] ++ [131, c3, c2, c1]).toArray⟩ := ⟨_, rfl⟩
            have hyhs : yh.size = 5 := by rw [hyh]; rfl
            have hcd' : (convert 56 9 (.slice A2 5 cq)).run Tryd.prog w2.drew = .ok (.string yh) w2.drew := by rw [hyh]; exact hcd
            have hs0 : ((convert 56 9 (.slice A2 5 cq)).run Tryd.prog w2.drew = .ok (.string yh) w2.drew ∧ Below w2.drew.heap.size w2.drew w2.drew) := ⟨hcd', Below.refl _ _⟩
            have HCV := hide (show ∀ W, Below w2.drew.heap.size w2.drew W → (convert 56 9 (.slice A2 5 cq)).run Tryd.prog W = .ok (.string yh) W from fun W hW => by rw [hyh]; exact hconv W ((Below.refl _ _).drew.trans hW))
            clear hcd hconv hsl2 hb2' hown2 hg2 hb2 hat2 hsj hown3 hnews hba2
            have hbs : ¬ 9223372036854775807 < yh.size + yt.size := by omega
            obtain ⟨y, hy⟩ : ∃ y : ByteArray, y = yh ++ yt := ⟨_, rfl⟩
            have hy2 : yh ++ yt = y := hy.symm
            have HY := hide (show y = ⟨(([c0] ++ [131, c3, c2, c1]) ++ xs.flatten).toArray⟩ by rw [hy, hyh, hyt]; exact ba_app _ _)
            have HFIN := hide (show Ending.returned (.tuple #[.string y, .int .i64 0]) = Ending.returned (wrapR r) by rw [HR2.out, wrapR, HY.out]; simp only [wrapW, HM.out, HL.out, HC0.out]; rfl)
            clear hy hyh hyt hyhs hyts
            go_region_held3 (fun W => (convert 56 9 (.slice A2 5 cq)).run Tryd.prog W = .ok (.string yh) W ∧ Below w2.drew.heap.size w2.drew W)
              (first | exact hs1 | exact hs0)
              (first
                | (go_at_call 58; refine J.out.mono ?_; rintro e wn ⟨rfl, hbn⟩; have hs1 : (convert 56 9 (.slice A2 5 cq)).run Tryd.prog wn = .ok (.string yh) wn ∧ Below w2.drew.heap.size w2.drew wn := ⟨HCV.out wn hbn, hbn⟩)
                | fail)
            all_goals
              go_wp2_with fail
              go_ret2
              exact ⟨HFIN.out, HBD.out.trans (hbn.mono HBD.out.size)⟩
end Go.Proofs.YtbafpgdmnkkclaaDoor
