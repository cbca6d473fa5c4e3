/- The law KeyinfoDecode, its walk. -/
import Derived.Test.YtbafpgdmnkkclaaDoorKeyO
import Derived.Test.YtbafpgdmnkkclaaDoorKeyB
namespace Go.Proofs.YtbafpgdmnkkclaaDoor
open Go.RowKit

/-- a row of five texts of bounded length -/
def K5 (g : Nat) (W : World) : Prop := ∀ k, k < 5 → ∃ y : ByteArray, y.size ≤ 10000000 ∧ W.cell? ⟨g, k, none⟩ = some (.string y)
theorem K5.new (w : World) (a b c d e : ByteArray) (ha : a.size ≤ 10000000) (hb : b.size ≤ 10000000) (hc : c.size ≤ 10000000) (hd : d.size ≤ 10000000) (he : e.size ≤ 10000000) : K5 w.heap.size (w.alloc (.cells #[.string a, .string b, .string c, .string d, .string e] 9)) := fun k hk => by
  rw [World.cell?_alloc_new]
  match k, hk with
  | 0, _ => exact ⟨_, ha, rfl⟩
  | 1, _ => exact ⟨_, hb, rfl⟩
  | 2, _ => exact ⟨_, hc, rfl⟩
  | 3, _ => exact ⟨_, hd, rfl⟩
  | 4, _ => exact ⟨_, he, rfl⟩
theorem dec_shape (y : ByteArray) : ∃ (h : Int) (i r : ByteArray) (k : Int), decKR (decK y.data.toList) = .tuple #[.agg #[.int .i64 h, .string i, .string r], .int .i64 k] := by
  rcases dec_or y with ⟨k, _, h⟩ | ⟨h, i, r, hq, _⟩
  · exact ⟨_, _, _, _, h⟩
  · exact ⟨_, _, _, _, hq⟩


set_option maxRecDepth 100000 in
set_option maxHeartbeats 8000000 in
theorem KeyinfoDecode_any (s : ByteArray) (l : List Int) (A : Option Addr) (n c : Nat) (w : World) (hmx : Mx w) (htb : Tb w) (h : Sl RInt 1 w (Lt w.heap.size) l [.slice A n c]) :
    Calls Tryd.prog 3 #[.string s, .slice A n c] w fun e w' => e = .returned (.bool true) ∧ Below w.heap.size w w' := by
  have HMX := hide hmx
  have HTB := hide htb
  have K := hide h
  clear hmx htb h
  by_cases hs : 300 < s.size
  · go_enter Tryd.func3, Tryd.ntmps3
    go_wp2_with fail
    refine (kawake_any _ (HMX.out.below (Below.refl w.heap.size w)) (HTB.out.below (Below.refl w.heap.size w))).mono ?_
    rintro e w9 ⟨rfl, hb9⟩
    have HB9 := hide (Below.trans (Below.refl w.heap.size w) (hb9.mono (Below.size (Below.refl w.heap.size w))))
    clear hb9
    go_wp2_with fail
    go_ret
    exact ⟨rfl, HB9.out⟩
  · go_enter Tryd.func3, Tryd.ntmps3
    go_wp2_with fail
    refine (New_any l A n c _ K.out).mono ?_
    rintro e w1 ⟨rfl, hd1, hb1⟩
    have HD1 := hide hd1
    have HB1 := hide hb1
    have hz1 := hb1.size
    obtain ⟨d, hd⟩ : ∃ d, d = w.heap.size := ⟨_, rfl⟩
    rw [← hd] at HD1 ⊢
    have hdw : w.heap.size ≤ d := by omega
    clear hd1 hb1 hd
    go_wp2_with fail
    refine (Key_any d _ HD1.out).mono ?_
    rintro e w2 ⟨h, i, r, hh, hi, hr, rfl, hd2, hx2⟩
    have HB2 := hide (Ex.below HB1.out hz1 hdw hx2)
    have HD2 := hide hd2
    obtain ⟨S, hSs, hE, -⟩ := made_back hh hi hr
    have HE := hide hE
    clear hd2 hx2 hE
    go_wp2_with fail
    refine (rEncodeKey_any (h : Int) i r _).mono ?_
    rintro e w3 ⟨rfl, hb3⟩
    rw [HE.out]
    have HD3 := hide (HD2.out.below hb3)
    have HB3 := hide (HB2.out.trans (hb3.mono HB2.out.size))
    clear hb3
    go_wp2_with fail
    refine (Damage_any d S (by omega) _ HD3.out).mono ?_
    rintro e w4 ⟨y1, hy1, rfl, hd4, hx4⟩
    have HD4 := hide hd4
    have HB4 := hide (Ex.below HB3.out HB3.out.size hdw hx4)
    clear hd4 hx4
    go_wp2_with fail
    refine (Rewrap_any S.size d S _ (Nat.le_refl _) (by omega) HD4.out).mono ?_
    rintro e w5 ⟨y2, hy2, rfl, hd5, hx5⟩
    have HD5 := hide hd5
    have HB5 := hide (Ex.below HB4.out HB4.out.size hdw hx5)
    clear hd5 hx5
    go_wp2_with fail
    refine (Rewrap_any S.size d S _ (Nat.le_refl _) (by omega) HD5.out).mono ?_
    rintro e w6 ⟨y3, hy3, rfl, hd6, hx6⟩
    have HB6 := hide (Ex.below HB5.out HB5.out.size hdw hx6)
    clear hd6 hx6
    obtain ⟨W0, hW0⟩ : ∃ W, W = w6.alloc (.cells #[.string s, .string S, .string y1, .string y2, .string y3] 9) := ⟨_, rfl⟩
    have ht5 := K5.new w6 s S y1 y2 y3 (by omega) (by omega) (by omega) (by omega) (by omega)
    rw [← hW0] at ht5
    have HB0 := hide (show Below w.heap.size w W0 by rw [hW0]; exact HB6.out.alloc HB6.out.size _)
    have hg0 : w6.heap.size < W0.heap.size := by rw [hW0]; simp
    obtain ⟨g, hg⟩ : ∃ g, g = w6.heap.size := ⟨_, rfl⟩
    rw [← hg] at ht5 hg0
    have HT5 := hide ht5
    go_wp2_with fail
    rw [← hW0, ← hg]
    clear hW0 hg ht5
    go_loopw [39] (fun i wr => ∃ k : Nat, k ≤ 5 ∧ i = .int .i64 k ∧ Below W0.heap.size W0 wr) (fun i _ => 5 - (intOf i).toNat)
    case atStart => exact ⟨0, by omega, rfl, Below.refl _ _⟩
    case round =>
      obtain ⟨k, hk, rfl, hb⟩ := hrel
      have HB := hide (HB0.out.trans (hb.mono HB0.out.size))
      by_cases hlt : k < 5
      · obtain ⟨y, hys, hcell0⟩ := HT5.out k hlt
        have hcell := (hb.cell (p := ⟨g, k, none⟩) hg0).trans hcell0
        have HBr := hide hb
        obtain ⟨h7, i7, r7, k7, hq⟩ := dec_shape y
        have HQ := hide hq
        clear hcell0 hb hq
        go_wp2_with fail
        refine (KDecode_any y (by omega) _ (HTB.out.below HB.out)).mono ?_
        rintro e w7 ⟨rfl, hb7⟩
        rw [HQ.out]
        obtain ⟨W8, hW8⟩ : ∃ W, W = w7.alloc (.cells #[.int .i64 h7, .string i7, .string r7] 30) := ⟨_, rfl⟩
        have hk8 := KX.new w7 h7 i7 r7
        have hb8 : Below W0.heap.size W0 W8 := by rw [hW8]; exact (HBr.out.trans (hb7.mono HBr.out.size)).alloc (Nat.le_trans HBr.out.size hb7.size) _
        rw [← hW8] at hk8
        have HK8 := hide hk8
        have HB8 := hide hb8
        clear hk8 hb8 hb7 hcell
        go_upto_region 9 with fail
        rw [← hW8]
        clear hW8
        obtain ⟨g8, hg8⟩ : ∃ g, w7.heap.size = g := ⟨_, rfl⟩
        rw [hg8] at HK8 ⊢
        clear hg8
        go_wp2_with fail
        refine (rDecodeKey_any y (by omega) _).mono ?_
        rintro e w9 ⟨rfl, hb9⟩
        rw [HQ.out]
        obtain ⟨W10, hW10⟩ : ∃ W, W = w9.alloc (.cells #[.int .i64 h7, .string i7, .string r7] 30) := ⟨_, rfl⟩
        have hk10 := KX.new w9 h7 i7 r7
        have hb10 : Below W8.heap.size W8 W10 := by rw [hW10]; exact hb9.alloc hb9.size _
        rw [← hW10] at hk10
        have HK10 := hide hk10
        have HK810 := hide (HK8.out.below hb10)
        have HB10 := hide (HB8.out.trans (hb10.mono HB8.out.size))
        clear hk10 hb10 hb9
        go_upto_region 10 with fail
        rw [← hW10]
        clear hW10
        obtain ⟨g10, hg10⟩ : ∃ g, w9.heap.size = g := ⟨_, rfl⟩
        rw [hg10] at HK10 ⊢
        clear hg10
        obtain ⟨n0, n1, n2, -, -, -⟩ := HK810.out.facts
        obtain ⟨m0, m1, m2, -, -, -⟩ := HK10.out.facts
        have t9 : (k7 != k7) = false := by simp
        have t8 : (h7 == h7) = true := by simp
        go_wp2_with fail
        go_roundw
        case rel => exact ⟨k + 1, by omega, by go_num, HB10.out⟩
        case measure => simp [intOf]; omega
      · clear hb
        go_wp2_with fail
        refine (kawake_any _ (HMX.out.below HB.out) (HTB.out.below HB.out)).mono ?_
        rintro e w9 ⟨rfl, hb9⟩
        have HB9 := hide (Below.trans HB.out (hb9.mono (Below.size HB.out)))
        clear hb9
        go_wp2_with fail
        go_ret
        exact ⟨rfl, HB9.out⟩
end Go.Proofs.YtbafpgdmnkkclaaDoor

/- The law KeyinfoAlgorithm, its walk. -/
namespace Go.Proofs.YtbafpgdmnkkclaaDoor
open Go.RowKit

/-- an element whose tag is any integer -/
abbrev EltI := Int × List UInt8 × List UInt8
def eltiC (e : EltI) : List Value := [.int .i64 e.1, .string ⟨e.2.1.toArray⟩, .string ⟨e.2.2.toArray⟩]
abbrev REltI : Rep EltI := Pu eltiC
theorem REltI.ok : RepOk REltI 3 := Pu.ok (fun _ => rfl) (fun x u hu => by simp [eltiC] at hu; rcases hu with rfl | rfl | rfl <;> rfl)
theorem Sl.eltiAt {w : World} {S : Nat → Prop} {A : Option Addr} {n c : Nat} {l : List EltI} (h : Sl REltI 3 w S l [.slice A n c]) {i : Nat} (hi : i < l.length) :
    ∃ b off, A = some ⟨b, off, none⟩ ∧ S b ∧ w.cell? ⟨b, off + i * 3, none⟩ = some (.int .i64 l[i].1) ∧ w.cell? ⟨b, off + i * 3 + 1, none⟩ = some (.string ⟨l[i].2.1.toArray⟩) ∧ w.cell? ⟨b, off + i * 3 + 2, none⟩ = some (.string ⟨l[i].2.2.toArray⟩) := by
  obtain ⟨b, off, xs, hA, hb, hr, hc⟩ := h.at_ hi
  have e : xs = eltiC l[i] := hr
  subst e
  exact ⟨b, off, hA, hb, by simpa using hc 0 _ rfl, by simpa [Nat.add_assoc] using hc 1 _ rfl, by simpa [Nat.add_assoc] using hc 2 _ rfl⟩
theorem one_shape (y : ByteArray) : ∃ (t : Int) (c r : ByteArray) (k : Int), oneR (oneF y.data.toList) = .tuple #[.agg #[.int .i64 t, .string c, .string r], .int .i64 k] ∧ c.size ≤ 131072 := by
  cases h : oneF y.data.toList with
  | error k => exact ⟨0, ⟨#[]⟩, ⟨#[]⟩, k, rfl, by decide⟩
  | ok e =>
    obtain ⟨_, _, h3, _, _⟩ := one_is_wrap h
    exact ⟨(e.1 : Int), ⟨e.2.1.toArray⟩, ⟨e.2.2.toArray⟩, 0, rfl, by rw [ba_mk]; exact h3⟩
theorem Own.pureS {α : Type} {f : α → List Value} {size : Nat} {e : TypeId} {w : World} {base : Nat} {S S' : Nat → Prop} {v : Value} {l : List α} (h : Own (Pu f) size e w base S v l) (hS : ∀ g, v.ownBlock = some g → ¬ S' g) : Own (Pu f) size e w base S' v l := by
  obtain ⟨xs, h1, _, h3⟩ := h
  exact ⟨xs, h1, hS, fun i x hx => h3 i x hx⟩
theorem Own.litElt {e : TypeId} {w : World} {base : Nat} (hbase : base ≤ w.heap.size) (t : Int) (c r : ByteArray) :
    Own REltI 3 e (w.alloc (.cells #[.int .i64 t, .string c, .string r] e)) base No (.slice (some ⟨w.heap.size, 0, none⟩) 1 1) [(t, c.data.toList, r.data.toList)] := by
  refine ⟨[.int .i64 t, .string c, .string r], ⟨rfl, .inr ⟨w.heap.size, 1, #[.int .i64 t, .string c, .string r], rfl, hbase, heap_alloc_new w _, Nat.le_refl _, by simp [maxLen], rfl, rfl⟩⟩, fun g _ hg => hg.elim, fun k y hy => ?_⟩
  match k, hy with
  | 0, hy =>
    simp at hy; subst hy
    exact ⟨[.int .i64 t, .string c, .string r], rfl, fun j u hu => by simpa using hu⟩
theorem news_elti (w : World) (S : Nat → Prop) (T : TypeId) (t : Int) (c r : ByteArray) :
    ∀ i y, [((t, c.data.toList, r.data.toList) : EltI)][i]? = some y → ∃ cs, REltI (w.alloc (.cells #[.int .i64 t, .string c, .string r] T)) S y cs ∧ ∀ j u, cs[j]? = some u → (w.alloc (.cells #[.int .i64 t, .string c, .string r] T)).cell? ((⟨w.heap.size, 0, none⟩ : Addr).add (i * 3 + j)) = some u :=
  news_pu (f := eltiC) (size := 3) (fun _ => rfl) w S _ T _ rfl
theorem K5.at_ {g : Nat} {W W' : World} (h : K5 g W) (he : W'.heap[g]? = W.heap[g]?) : K5 g W' := fun k hk => by
  obtain ⟨y, h1, h2⟩ := h k hk
  exact ⟨y, h1, (World.cell?_of_block (a := ⟨g, k, none⟩) he).trans h2⟩
/-- a variable that holds an element -/
def EX (g : Nat) (t : Int) (c r : ByteArray) (W : World) : Prop := W.heap[g]? = some (.cells #[.int .i64 t, .string c, .string r] 38 (0, 0))
theorem EX.facts {g : Nat} {t : Int} {c r : ByteArray} {W : World} (k : EX g t c r W) : W.cell? ⟨g, 0, none⟩ = some (.int .i64 t) ∧ W.cell? ⟨g, 1, none⟩ = some (.string c) ∧ W.cell? ⟨g, 2, none⟩ = some (.string r) := by
  unfold EX at k
  simp [World.cell?, k]
theorem EX.lt {g : Nat} {t : Int} {c r : ByteArray} {W : World} (k : EX g t c r W) : g < W.heap.size := (Array.getElem?_eq_some_iff.1 k).1
theorem EX.below {g : Nat} {t : Int} {c r : ByteArray} {W W' : World} (k : EX g t c r W) (hb : Below W.heap.size W W') : EX g t c r W' := (hb.block g k.lt).trans k
theorem EX.new (w : World) (t : Int) (c r : ByteArray) : EX w.heap.size t c r (w.alloc (.cells #[.int .i64 t, .string c, .string r] 38)) := heap_alloc_new w _


set_option maxRecDepth 100000 in
set_option maxHeartbeats 8000000 in
theorem KeyinfoAlgorithm_any (t : Int) (ec er : ByteArray) (l : List Int) (A : Option Addr) (n c : Nat) (more : ByteArray) (w : World) (hmx : Mx w) (htb : Tb w) (h : Sl RInt 1 w (Lt w.heap.size) l [.slice A n c]) :
    Calls Tryd.prog 4 #[.agg #[.int .i64 t, .string ec, .string er], .slice A n c, .string more] w fun e w' => e = .returned (.bool true) ∧ Below w.heap.size w w' := by
  have HMX := hide hmx
  have HTB := hide htb
  obtain ⟨W0, hW0⟩ : ∃ W, W = w.alloc (.cells #[.int .i64 t, .string ec, .string er] 38) := ⟨_, rfl⟩
  have hb0 : Below w.heap.size w W0 := by rw [hW0]; exact (Below.refl _ _).alloc (Nat.le_refl _) _
  have he0 : EX w.heap.size t ec er W0 := by rw [hW0]; exact EX.new w _ _ _
  have K := hide (show Sl RInt 1 W0 (Lt W0.heap.size) l [.slice A n c] from (Sl.ok RInt.ok).mono h (fun j hj => hb0.block j hj) (fun _ hj => Nat.lt_of_lt_of_le hj hb0.size))
  have HB0 := hide hb0
  have HE0 := hide he0
  clear hmx htb h hb0 he0
  go_enter Tryd.func4, Tryd.ntmps4
  go_upto_region 1 with fail
  rw [← hW0]
  clear hW0
  obtain ⟨ge, hge⟩ : ∃ g, w.heap.size = g := ⟨_, rfl⟩
  rw [hge] at HE0 ⊢
  clear hge
  obtain ⟨n0, n1, n2⟩ := HE0.out.facts
  by_cases h1 : 200 < ec.size
  · go_wp2_with fail
    refine (kawake_any _ (HMX.out.below HB0.out) (HTB.out.below HB0.out)).mono ?_
    rintro e w9 ⟨rfl, hb9⟩
    have HB9 := hide (Below.trans HB0.out (hb9.mono (Below.size HB0.out)))
    clear hb9
    go_wp2_with fail
    go_ret
    exact ⟨rfl, HB9.out⟩
  by_cases h2 : 200 < er.size
  · go_wp2_with fail
    refine (kawake_any _ (HMX.out.below HB0.out) (HTB.out.below HB0.out)).mono ?_
    rintro e w9 ⟨rfl, hb9⟩
    have HB9 := hide (Below.trans HB0.out (hb9.mono (Below.size HB0.out)))
    clear hb9
    go_wp2_with fail
    go_ret
    exact ⟨rfl, HB9.out⟩
  by_cases h3 : 100 < more.size
  · go_wp2_with fail
    refine (kawake_any _ (HMX.out.below HB0.out) (HTB.out.below HB0.out)).mono ?_
    rintro e w9 ⟨rfl, hb9⟩
    have HB9 := hide (Below.trans HB0.out (hb9.mono (Below.size HB0.out)))
    clear hb9
    go_wp2_with fail
    go_ret
    exact ⟨rfl, HB9.out⟩
  have d1 : decide ((200 : Int) < (ec.size : Int)) = false := decide_eq_false (by omega)
  have d2 : decide ((200 : Int) < (er.size : Int)) = false := decide_eq_false (by omega)
  have d3 : decide ((100 : Int) < (more.size : Int)) = false := decide_eq_false (by omega)
  go_wp2_with fail
  clear n0 n1 n2 d1 d2 d3
  refine (New_any l A n c _ K.out).mono ?_
  rintro e w1 ⟨rfl, hd1, hb1⟩
  have HD1 := hide hd1
  have HB1 := hide (HB0.out.trans (hb1.mono HB0.out.size))
  have HE1 := hide (HE0.out.below hb1)
  obtain ⟨d, hd⟩ : ∃ d, d = W0.heap.size := ⟨_, rfl⟩
  rw [← hd] at HD1 ⊢
  have hdw : w.heap.size ≤ d := by rw [hd]; exact HB0.out.size
  clear hd1 hb1 hd
  obtain ⟨AL, hAL⟩ : ∃ X : ByteArray, algA = X := ⟨_, rfl⟩
  have has : AL.size = 14 := by rw [← hAL]; rfl
  have HRA := hide (fun W => hAL ▸ rAlgorithm_any W)
  have HPA := hide (fun W h => hAL ▸ Algorithm_any W h)
  clear hAL
  go_wp2_with fail
  refine (HRA.out _).mono ?_
  rintro e w2 ⟨rfl, hb2⟩
  have HD2 := hide (HD1.out.below hb2)
  have HE2 := hide (HE1.out.below hb2)
  have HB2 := hide (HB1.out.trans (hb2.mono HB1.out.size))
  clear hb2
  obtain ⟨z, hz⟩ : ∃ z, AL.extract 2 14 = z := ⟨_, rfl⟩
  have hzs : z.size = 12 := by rw [← hz, ba_size_ex _ _ _ (by omega)]
  have hsl := sl_pu (f := strC) (size := 1) (fun _ => rfl) w2 #[.string z, .string more] 9 [z.data.toList, more.data.toList] rfl (by simp [maxLen])
  have HSL := hide hsl
  have hgs := wrapG_size 48 [z.data.toList, more.data.toList]
  obtain ⟨S1, hS1⟩ : ∃ S : ByteArray, S = ⟨(wrapG 48 [z.data.toList, more.data.toList]).1.toArray⟩ := ⟨_, rfl⟩
  have hS1s : S1.size ≤ 131077 := by rw [hS1, ba_mk]; exact hgs
  obtain ⟨k1, hk1⟩ : ∃ k, (wrapG 48 [z.data.toList, more.data.toList]).2 = k := ⟨_, rfl⟩
  have HWG1 := hide (show wrapR (wrapG 48 [z.data.toList, more.data.toList]) = .tuple #[.string S1, .int .i64 k1] by rw [wrapR, hS1, hk1])
  have hgs2 := wrapG_size 48 [z.data.toList, [5, 0]]
  obtain ⟨S2, hS2⟩ : ∃ S : ByteArray, S = ⟨(wrapG 48 [z.data.toList, [5, 0]]).1.toArray⟩ := ⟨_, rfl⟩
  have hS2s : S2.size ≤ 131077 := by rw [hS2, ba_mk]; exact hgs2
  obtain ⟨k2, hk2⟩ : ∃ k, (wrapG 48 [z.data.toList, [5, 0]]).2 = k := ⟨_, rfl⟩
  have HWG2 := hide (show wrapR (wrapG 48 [z.data.toList, [5, 0]]) = .tuple #[.string S2, .int .i64 k2] by rw [wrapR, hS2, hk2])
  have HZ1 := hide (show ([z.data.toList, more.data.toList] : List (List UInt8)).flatten.length ≤ 1000000000000 by simp; omega)
  have HZ2 := hide (show ([z.data.toList, [5, 0]] : List (List UInt8)).flatten.length ≤ 1000000000000 by simp; omega)
  clear hsl hgs hgs2 hS1 hS2 hk1 hk2
  go_wp2_with fail
  refine (rWrap_any 48 (by omega) [z.data.toList, more.data.toList] _ 2 HZ1.out _ HSL.out).mono ?_
  rintro e w3 ⟨rfl, hb3⟩
  rw [HWG1.out]
  have HB3a := (Below.refl w2.heap.size w2).alloc (Nat.le_refl _) (.cells #[.string z, .string more] 9)
  have HB3b := HB3a.trans (hb3.mono HB3a.size)
  have HD3 := hide (HD2.out.below HB3b)
  have HE3 := hide (HE2.out.below HB3b)
  have HB3 := hide (HB2.out.trans (HB3b.mono HB2.out.size))
  have HSL3 := hide (sl_pu (f := strC) (size := 1) (fun _ => rfl) w3 #[.string z, .string ⟨#[5, 0]⟩] 9 [z.data.toList, [5, 0]] rfl (by simp [maxLen]))
  clear hb3 HB3a HB3b
  go_wp2_with fail
  refine (rWrap_any 48 (by omega) [z.data.toList, [5, 0]] _ 2 HZ2.out _ HSL3.out).mono ?_
  rintro e w4 ⟨rfl, hb4⟩
  rw [HWG2.out]
  have HB4a := (Below.refl w3.heap.size w3).alloc (Nat.le_refl _) (.cells #[.string z, .string ⟨#[5, 0]⟩] 9)
  have HB4b := HB4a.trans (hb4.mono HB4a.size)
  have HD4 := hide (HD3.out.below HB4b)
  have HE4 := hide (HE3.out.below HB4b)
  have HB4 := hide (HB3.out.trans (HB4b.mono HB3.out.size))
  clear hb4 HB4a HB4b
  obtain ⟨n0, n1, n2⟩ := HE4.out.facts
  have HOWN := hide (Own.litElt (e := 38) (base := w4.heap.size) (w := w4) (Nat.le_refl _) t ec er)
  obtain ⟨W5, hW5⟩ : ∃ W, W = w4.alloc (.cells #[.int .i64 t, .string ec, .string er] 38) := ⟨_, rfl⟩
  have hb5 : Below w4.heap.size w4 W5 := by rw [hW5]; exact (Below.refl _ _).alloc (Nat.le_refl _) _
  have hsz5 : w4.heap.size < W5.heap.size := by rw [hW5]; simp
  rw [← hW5] at HOWN
  have HD5 := hide (HD4.out.below hb5)
  have HB5 := hide (HB4.out.trans (hb5.mono HB4.out.size))
  clear hb5
  go_upto_region 8 with fail
  rw [← hW5]
  clear hW5 n0 n1 n2
  obtain ⟨base, hbase⟩ : ∃ g, w4.heap.size = g := ⟨_, rfl⟩
  rw [hbase] at HOWN hsz5 ⊢
  have hbw : w.heap.size ≤ base := by rw [← hbase]; exact HB4.out.size
  have hdb : d < base := by rw [← hbase]; exact HD4.out.lt
  clear hbase
  go_wp2_with fail
  refine (Damage_any d AL (by omega) _ HD5.out).mono ?_
  rintro e w6 ⟨y1, hy1, rfl, hd6, hx6⟩
  have HD6 := hide hd6
  have HX6 := hide hx6
  have HB6 := hide (Ex.below HB5.out HB5.out.size hdw hx6)
  clear hd6 hx6
  go_wp2_with fail
  refine (Rewrap_any AL.size d AL _ (Nat.le_refl _) (by omega) HD6.out).mono ?_
  rintro e w7 ⟨y2, hy2, rfl, hd7, hx7⟩
  have HX7 := hide (HX6.out.trans hx7)
  have HB7 := hide (Ex.below HB6.out HB6.out.size hdw hx7)
  clear hd7 hx7
  have hown7 := HOWN.out.ex REltI.ok HX7.out hdb (fun k hk => hk.elim)
  obtain ⟨W8, hW8⟩ : ∃ W, W = w7.alloc (.cells #[.string AL, .string S1, .string S2, .string y1, .string y2] 9) := ⟨_, rfl⟩
  have ht5 := K5.new w7 AL S1 S2 y1 y2 (by omega) (by omega) (by omega) (by omega) (by omega)
  have hown8 := hown7.alloc REltI.ok (no_lt _) (.cells #[.string AL, .string S1, .string S2, .string y1, .string y2] 9)
  rw [← hW8] at ht5 hown8
  have HB8 := hide (show Below w.heap.size w W8 by rw [hW8]; exact HB7.out.alloc HB7.out.size _)
  have hg0 : w7.heap.size < W8.heap.size := by rw [hW8]; simp
  have hbg : base < w7.heap.size := Nat.lt_of_lt_of_le hsz5 HX7.out.size
  obtain ⟨g, hg⟩ : ∃ g, g = w7.heap.size := ⟨_, rfl⟩
  rw [← hg] at ht5 hg0 hbg
  have hown9 := Own.pureS (S' := fun j => j = g) hown8 (fun j hj hjg => by simp [Value.ownBlock] at hj; omega)
  have hbase8 : base ≤ W8.heap.size := by omega
  have HOWN9 := hide hown9
  have HT5 := hide ht5
  have HCL := hide (show ∀ x ∈ ([(t, ec.data.toList, er.data.toList)] : List EltI), x.2.1.length ≤ 131072 from fun x hx => by
    simp at hx; subst hx; show ec.data.toList.length ≤ _; rw [size_string]; omega)
  clear hown7 hown8 hown9 hsz5 ht5
  go_wp2_with fail
  rw [← hW8, ← hg]
  clear hW8 hg
  go_loopw [13, 67] (fun v i wr => ∃ (k : Nat) (out : List EltI), k ≤ 5 ∧ i = .int .i64 k ∧ out.length ≤ k + 1 ∧ (∀ x ∈ out, x.2.1.length ≤ 131072) ∧ Own REltI 3 38 wr base (fun j => j = g) v out ∧ K5 g wr ∧ g < wr.heap.size ∧ Below w.heap.size w wr) (fun _ i _ => 5 - (intOf i).toNat)
  case atStart => exact ⟨0, _, by omega, rfl, Nat.le_refl _, HCL.out, HOWN9.out, HT5.out, hg0, HB8.out⟩
  case round =>
    obtain ⟨k, out, hk, rfl, hol, hcl, hown, ht5, hgl, hb⟩ := hrel
    obtain ⟨A9, cp, hv⟩ := (hown.sl REltI.ok).shape
    subst hv
    have HCLr := hide hcl
    have HOWNr := hide hown
    have HT5r := hide ht5
    have HBr := hide hb
    have hgs : base ≤ wr.heap.size := by omega
    clear hcl hown ht5 hb
    by_cases hlt : k < 5
    · obtain ⟨y, hys, hcell⟩ := HT5r.out k hlt
      obtain ⟨t7, c7, r7, k7, hq, hc7⟩ := one_shape y
      have HQ := hide hq
      clear hq
      go_wp2_with fail
      refine (rOne_any y (by omega) _).mono ?_
      rintro e w8 ⟨rfl, hb8⟩
      rw [HQ.out]
      obtain ⟨W9, hW9⟩ : ∃ W, W = w8.alloc (.cells #[.int .i64 t7, .string c7, .string r7] 38) := ⟨_, rfl⟩
      have he9 := EX.new w8 t7 c7 r7
      have hb9 : Below wr.heap.size wr W9 := by rw [hW9]; exact hb8.alloc hb8.size _
      rw [← hW9] at he9
      have HE9 := hide he9
      have HB9r := hide hb9
      have HB9 := hide (HBr.out.trans (hb9.mono HBr.out.size))
      have hz9 := hb9.size
      clear he9 hb9 hb8 hcell
      go_upto_region 12 with fail
      rw [← hW9]
      clear hW9
      obtain ⟨g9, hg9⟩ : ∃ g, w8.heap.size = g := ⟨_, rfl⟩
      rw [hg9] at HE9 ⊢
      clear hg9
      obtain ⟨n0, n1, n2⟩ := HE9.out.facts
      have HOW9 := hide (HOWNr.out.below REltI.ok (fun j hj => by rw [hj]; exact hgl) HB9r.out)
      have hobn : ∀ j, (Value.slice A9 out.length cp).ownBlock = some j → ¬ j = g := HOWNr.out.choose_spec.2.1
      have HOA := hide (HOW9.out.alloc REltI.ok (fun j hj => by rw [hj]; omega) (.cells #[.int .i64 t7, .string c7, .string r7] 38))
      have hgl9 : g < W9.heap.size := by omega
      have HT9 := hide (HT5r.out.at_ (HB9r.out.block g hgl))
      have HCN := hide (show ∀ x ∈ out ++ [((t7, c7.data.toList, r7.data.toList) : EltI)], x.2.1.length ≤ 131072 from fun x hx => by
        rcases List.mem_append.1 hx with hx | hx
        · exact HCLr.out x hx
        · simp at hx; subst hx; show c7.data.toList.length ≤ _; rw [size_string]; exact hc7)
      go_wp2_with (at_builtin; refine wpList_app REltI.ok _ rfl (.tmp 76) (.tmp 78) 41 rfl base 38 (.agg #[.int .i64 0, .string ⟨#[]⟩, .string ⟨#[]⟩]) 40 Tryd.underlying41 info_elt rfl (by decide) (fun j => j = g) _ out rfl HOA.out ⟨_, 0, none⟩ 1 1 [(t7, c7.data.toList, r7.data.toList)] rfl rfl (news_elti _ _ _ t7 c7 r7) (fun j hj => by rw [hj]; simp; omega) (by simp; omega) (by simp [maxLen]; omega) (by simp; omega) ?_; intro v2 w2 hown2 hg2 hb2 hat2; have hsz2 := hb2.size; simp at hsz2)
      go_roundw
      case rel =>
        have hT2 := HT9.out.at_ ((hg2.block g (by simp; omega) (fun e => hobn g e.symm rfl)).trans (Below.heap_alloc W9 _ g hgl9))
        exact ⟨k + 1, _, by omega, by go_num, by simp; omega, HCN.out, hown2, hT2, by omega, (HB9.out.alloc HB9.out.size _).trans (hb2.mono hbw)⟩
      case measure => simp [intOf]; omega
    · have HSL9 := hide (HOWNr.out.sl REltI.ok)
      have HOL := hide (show out.length ≤ 6 by omega)
      clear hol
      obtain ⟨wz, rfl⟩ : ∃ W, W = wr := ⟨_, rfl⟩
      go_wp2_with fail
      go_loopw [83] (fun i wr => ∃ j : Nat, j ≤ out.length ∧ i = .int .i64 j ∧ Below wz.heap.size wz wr) (fun i _ => out.length - (intOf i).toNat)
      case atStart => exact ⟨0, by omega, rfl, Below.refl _ _⟩
      case round =>
        obtain ⟨j, hj, rfl, hb⟩ := hrel
        have HBj := hide (HBr.out.trans (hb.mono HBr.out.size))
        have HBz := hide hb
        by_cases hlt2 : j < out.length
        · obtain ⟨b, off, hA, hbS, e0, e1, e2⟩ := HSL9.out.eltiAt hlt2
          subst hA
          have hbl : b < wz.heap.size := by
            rcases hbS with hbS | hbS
            · rw [hbS]; exact hgl
            · exact hbS.2
          have f0 := (hb.cell (p := ⟨b, off + j * 3, none⟩) hbl).trans e0
          have f1 := (hb.cell (p := ⟨b, off + j * 3 + 1, none⟩) hbl).trans e1
          have f2 := (hb.cell (p := ⟨b, off + j * 3 + 2, none⟩) hbl).trans e2
          have hcs := HCLr.out out[j] (List.getElem_mem hlt2)
          obtain ⟨tx, htx⟩ : ∃ x, out[j].1 = x := ⟨_, rfl⟩
          obtain ⟨cB, hcB⟩ : ∃ x : ByteArray, x = ⟨out[j].2.1.toArray⟩ := ⟨_, rfl⟩
          obtain ⟨rB, hrB⟩ : ∃ x : ByteArray, x = ⟨out[j].2.2.toArray⟩ := ⟨_, rfl⟩
          have hcz : cB.size ≤ 131072 := by rw [hcB, ba_mk]; exact hcs
          rw [htx] at f0
          rw [← hcB] at f1
          rw [← hrB] at f2
          obtain ⟨W1, hW1⟩ : ∃ W, W = wr.alloc (.cells #[.int .i64 tx, .string cB, .string rB] 38) := ⟨_, rfl⟩
          have he1 := EX.new wr tx cB rB
          have hb1 : Below wz.heap.size wz W1 := by rw [hW1]; exact hb.alloc hb.size _
          rw [← hW1] at he1
          have HE1 := hide he1
          have HBz1 := hide hb1
          have HBw1 := hide (HBr.out.trans (hb1.mono HBr.out.size))
          have HLT := hide hlt2
          clear hbS e0 e1 e2 hcs htx hcB hrB he1 hb1 hb hbl
          go_upto_region 17 with fail
          rw [← hW1]
          clear hW1 f0 f1 f2
          obtain ⟨g1, hg1⟩ : ∃ g, wr.heap.size = g := ⟨_, rfl⟩
          rw [hg1] at HE1 ⊢
          clear hg1
          obtain ⟨kk, hkk⟩ : ∃ k, chkAlg tx cB.data.toList = k := ⟨_, rfl⟩
          have HCA := hide (show ∀ W : World, Below W1.heap.size W1 W → Calls Tryd.prog 18 #[.agg #[.int .i64 tx, .string cB, .string rB]] W fun e w' => e = .returned (.int .i64 kk) ∧ Below W.heap.size W w' from fun W h => hkk ▸ CheckAlgorithm_any tx cB rB hcz W (HTB.out.below (HBw1.out.trans (h.mono HBw1.out.size))))
          have HCB := hide (show ∀ W : World, Below W1.heap.size W1 W → Calls Tryd.prog 19 #[.agg #[.int .i64 tx, .string cB, .string rB]] W fun e w' => e = .returned (.int .i64 kk) ∧ Below W.heap.size W w' from fun W _ => hkk ▸ rCheckAlgorithm_any tx cB rB hcz W)
          have HS := hide (fun (W : World) (hb : Below W1.heap.size W1 W) => (show W.cell? ⟨g1, 0, none⟩ = some (.int .i64 tx) ∧ W.cell? ⟨g1, 1, none⟩ = some (.string cB) ∧ W.cell? ⟨g1, 2, none⟩ = some (.string rB) ∧ Below W1.heap.size W1 W from ⟨(HE1.out.below hb).facts.1, (HE1.out.below hb).facts.2.1, (HE1.out.below hb).facts.2.2, hb⟩))
          have hbb : Below W1.heap.size W1 W1 := Below.refl _ _
          obtain ⟨n0, n1, n2⟩ := HE1.out.facts
          have tkk : (kk != kk) = false := by simp
          clear hkk hcz
          go_wp2_with fail
          go_region_held3 (fun W => W.cell? ⟨g1, 0, none⟩ = some (.int .i64 tx) ∧ W.cell? ⟨g1, 1, none⟩ = some (.string cB) ∧ W.cell? ⟨g1, 2, none⟩ = some (.string rB) ∧ Below W1.heap.size W1 W)
            (first | exact HS.out _ hs3 | exact HS.out _ hbb.drew | exact HS.out _ hbb)
            (first
              | (go_at_call 18; (first | ((with_reducible refine (HCA.out _ hs3).mono ?_); rintro e w9 ⟨rfl, hb9⟩; have hs3 : Below W1.heap.size W1 w9 := hs3.trans (hb9.mono hs3.size)) | ((with_reducible refine (HCA.out _ hbb.drew).mono ?_); rintro e w9 ⟨rfl, hb9⟩; have hs3 : Below W1.heap.size W1 w9 := hbb.drew.trans hb9)))
              | (go_at_call 19; (first | ((with_reducible refine (HCB.out _ hs3).mono ?_); rintro e w9 ⟨rfl, hb9⟩; have hs3 : Below W1.heap.size W1 w9 := hs3.trans (hb9.mono hs3.size)) | ((with_reducible refine (HCB.out _ hbb.drew).mono ?_); rintro e w9 ⟨rfl, hb9⟩; have hs3 : Below W1.heap.size W1 w9 := hbb.drew.trans hb9)))
              | fail)
          all_goals
            clear n0 n1 n2
            have hol := HOL.out
            have hlt3 : j < out.length := HLT.out
            go_wp2_with fail
            go_roundw
            case rel => exact ⟨j + 1, by omega, by go_num, HBz1.out.trans (hs3.mono HBz1.out.size)⟩
            case measure => simp [intOf]; omega
        · clear hb
          go_wp2_with fail
          refine (kawake_any _ (HMX.out.below HBj.out) (HTB.out.below HBj.out)).mono ?_
          rintro e w9 ⟨rfl, hb9⟩
          have HB9 := hide (HBj.out.trans (hb9.mono HBj.out.size))
          clear hb9
          go_wp2_with fail
          refine (HPA.out _ (HMX.out.below HB9.out)).mono ?_
          rintro e w10 ⟨rfl, hb10⟩
          have HB10 := hide (HB9.out.trans (hb10.mono HB9.out.size))
          clear hb10
          go_wp2_with fail
          go_ret
          exact ⟨rfl, HB10.out⟩
end Go.Proofs.YtbafpgdmnkkclaaDoor
