/- The law GnameLists, its walk. -/
import Derived.Test.YtinmfgbdadchjaaGreatDoorGGlA
import Derived.Test.YtinmfgbdadchjaaGreatDoorGmA
import Derived.Test.YtinmfgbdadchjaaGreatDoorGTlvJ
import Derived.Test.YtinmfgbdadchjaaGreatDoorGHosI
import Derived.Test.YtinmfgbdadchjaaGreatDoorSbB
namespace Go.Proofs.YtinmfgbdadchjaaGreatDoor
open Go.RowKit
theorem GoodGen.len {g : Gen} (h : GoodGen g) : g.2.1.length ≤ 100 := by
 have k1 : ∀ t ∈ gMail, t.length ≤ 100 := by decide
 have k2 : ∀ t ∈ gDns, t.length ≤ 100 := by decide
 have k3 : ∀ t ∈ gAddr, t.length ≤ 100 := by decide
 rcases h with ⟨t, ht, rfl⟩ | ⟨t, ht, rfl⟩ | ⟨t, ht, rfl⟩ | ⟨n, hn, rfl⟩
 ·exact k1 t ht
 ·exact k2 t ht
 ·exact k3 t ht
 ·show ([] : List UInt8).length ≤ 100; decide
theorem encG_len {g : Gen} {c : Bool} (hs : g.2.1.length ≤ 100) : (encG g c).1.length ≤ 40010 := by
 rw [encG]
 by_cases h : chkG g c = 0
 ·rw [if_pos h]
  show (encGB g).length ≤ _
  unfold encGB
  split
  ·rename_i h4
   have hn : chkN g.2.2 = 0 := by
    unfold chkG at h
    rw [if_pos h4] at h
    split at h
    ·exact h
    ·cases h
   rw [wrapW_len]
   have := encB_size hn
   have := lenB_le (encB g.2.2).length
   omega
  ·rw [wrapW_len]
   have := lenB_le g.2.1.length
   omega
 ·rw [if_neg h]
  show ([] : List UInt8).length ≤ _
  simp
def T3 (g : Nat) (W : World) : Prop := ∀ k, k < 3 → ∃ y : ByteArray, y.size ≤ 10000000 ∧ W.cell? ⟨g, k, none⟩ = some (.string y)
theorem T3.new (w : World) (a b c : ByteArray) (ha : a.size ≤ 10000000) (hb : b.size ≤ 10000000) (hc : c.size ≤ 10000000) : T3 w.heap.size (w.alloc (.cells #[.string a, .string b, .string c] 9)) := fun k hk => by
 rw [World.cell?_alloc_new]
 match k, hk with
 | 0, _ => exact ⟨_, ha, rfl⟩
 | 1, _ => exact ⟨_, hb, rfl⟩
 | 2, _ => exact ⟨_, hc, rfl⟩
set_option maxRecDepth 100000 in
set_option maxHeartbeats 16000000 in
theorem GnameLists_any (raw : List Gen) (l : List Int) (Aa A0 : Option Addr) (ca n0 c0 : Nat) (n : Int) (b : ByteArray) (hn : (Lit.int .u8 n).wf = true) (w : World) (hmx : Mx w) (htb : Tb w)
    (h1 : Sl RGen 3 w (Lt w.heap.size) raw [.slice Aa raw.length ca]) (h : Sl RInt 1 w (Lt w.heap.size) l [.slice A0 n0 c0]) :
    Calls Tryz.prog 10 #[.slice Aa raw.length ca, .slice A0 n0 c0, .int .u8 n, .string b] w fun e w' => e = .returned (.bool true) ∧ Below w.heap.size w w' := by
  have hn' : 0 ≤ n ∧ n ≤ 255 := by simpa [Lit.wf, IntKind.min, IntKind.max, IntKind.signed, IntKind.bits] using hn
  have HMX := hide hmx
  have HTB := hide htb
  have K0 := hide h
  have K1 := hide h1
  obtain ⟨p1, hp1⟩ : ∃ p, shortGs raw = p := ⟨_, rfl⟩
  have HP1 := hide hp1
  clear hmx htb h h1 hp1 hn
  go_enter Tryz.func10, Tryz.ntmps10
  go_wp2_with fail
  refine (ShortNames_any raw Aa ca p1 HP1.out _ K1.out).mono ?_
  rintro e w1 ⟨rfl, hb1⟩
  have HB1 := hide hb1
  clear hb1
  cases p1
  · go_wp2_with fail
    refine (awake9_any _ (HMX.out.below HB1.out)).mono ?_
    rintro e wz ⟨rfl, hbz⟩
    go_wp2_with fail
    go_ret
    exact ⟨rfl, HB1.out.trans (hbz.mono HB1.out.size)⟩
  · have HSR := hide (show SmallGs raw from shortGs_small HP1.out)
    by_cases hb300 : 300 < b.size
    · have t3 : (300 : Int) < (b.size : Int) := by omega
      clear hb300
      go_wp2_with fail
      refine (awake9_any _ (HMX.out.below HB1.out)).mono ?_
      rintro e wz ⟨rfl, hbz⟩
      go_wp2_with fail
      go_ret
      exact ⟨rfl, HB1.out.trans (hbz.mono HB1.out.size)⟩
    · have t3 : ¬ (300 : Int) < (b.size : Int) := by omega
      have HBS := hide (show b.size ≤ 300 by omega)
      clear hb300
      obtain ⟨N, hN⟩ : ∃ N : Nat, n % 20 = (N : Int) := ⟨(n % 20).toNat, by omega⟩
      have hN19 : N ≤ 19 := by omega
      go_wp2_with fail
      refine (New_any l A0 n0 c0 _ ((Sl.ok RInt.ok).below K0.out HB1.out)).mono ?_
      rintro e w3 ⟨rfl, hdk3, hb3⟩
      obtain ⟨d, hd⟩ : ∃ d, w1.heap.size = d := ⟨_, rfl⟩
      rw [hd] at hdk3 ⊢
      have hdw : w.heap.size ≤ d := by have := HB1.out.size; omega
      have HB3 := hide (HB1.out.trans (hb3.mono HB1.out.size))
      have HDK3 := hide hdk3
      have hd3 : d < w3.heap.size := hdk3.lt
      obtain ⟨base, hbase⟩ : ∃ b, b = w3.heap.size := ⟨_, rfl⟩
      have hgs0 : base ≤ w3.heap.size := by omega
      have hdb : d < base := by omega
      have hwb : w.heap.size ≤ base := by omega
      have HBASE := hide hbase
      clear hdk3 hb3 hd hbase t3
      go_wp2_with fail
      go_loopw [10, 11] (fun v i wr => ∃ (k : Nat) (m : List Gen) (S : Nat → Prop), k ≤ N ∧ m.length = k ∧ i = .int .i64 k ∧ Ex d w3 wr ∧ DeckAt wr d ∧ base ≤ wr.heap.size ∧ Own RGen 3 50 wr base S v m ∧ (∀ j, S j → base ≤ j ∧ j < wr.heap.size) ∧ ∀ g ∈ m, GoodGen g) (fun _ i _ => N - (intOf i).toNat)
      case atStart => exact ⟨0, [], No, by omega, rfl, rfl, Ex.refl _ _, HDK3.out, hgs0, Own.nil _ _ _ _ _ _, fun j h => h.elim, fun x hx => by cases hx⟩
      case round =>
        obtain ⟨k, m, S, hk, hmk, rfl, hex, hdk, hgs, hown, hS, hgm⟩ := hrel
        obtain ⟨A9, c9, hv9⟩ := (hown.sl RGen.ok).shape
        subst hv9
        have HMK := hide hmk
        have HEX := hide hex
        have HDK := hide hdk
        have HOWN := hide hown
        have HS := hide hS
        have HGM := hide hgm
        have hm19 : m.length ≤ 19 := by omega
        clear hmk hex hdk hown hS hgm
        by_cases hlt : k < N
        · have hlt' : (k : Int) < n % 20 := by omega
          go_wp2_with fail
          refine (General_any d _ HDK.out).mono ?_
          rintro e w5 ⟨g, t, A5, c5, hq, ht, rfl, hsl5, hdk5, hex5⟩
          obtain ⟨kk, tt, nn⟩ := g
          obtain rfl : t.data.toList = tt := ht
          have HQ := hide hq
          have hz5 := hex5.size
          obtain ⟨S', hc1, hc2, hc3⟩ := gen_step_ex (k := kk) (t := t) HOWN.out HS.out hgs hex5 hdb hz5 hsl5
          have HEX5 := hide (HEX.out.trans hex5)
          have HDK5 := hide hdk5
          clear hq hex5 hdk5 hsl5
          go_wp2_with (at_builtin; refine wpList_app RGen.ok _ rfl (.tmp 47) (.tmp 50) 53 rfl base 50 (.agg #[.int .i64 0, .string ⟨#[]⟩, .slice none 0 0]) 48 Tryz.underlying53 info_gen rfl (by decide) S' _ m rfl hc1 ⟨_, 0, none⟩ 1 1 [(kk, t.data.toList, nn)] rfl rfl hc2 (fun b hb => (hc3 b hb).2) (by simp; omega) (by simp [maxLen]; omega) (by simp; omega) ?_; intro v6 w6 hown6 hgr6 hb6 hat6; have hsz6 := hb6.size; simp at hsz6)
          have hsz7 : w5.heap.size + 1 ≤ w6.heap.size := by simpa using hsz6
          have hexf : Ex d w3 w6 := (HEX5.out.alloc _).then_base (HBASE.out ▸ hb6)
          have hdkf : DeckAt w6 d := (HDK5.out.alloc _).keep (hb6.mono (by omega))
          go_roundw
          case rel => exact ⟨k + 1, m ++ [(kk, t.data.toList, nn)], S', by omega, by simp [HMK.out], by go_num, hexf, hdkf, by omega, hown6, fun j hj => ⟨(hc3 j hj).1, by have := (hc3 j hj).2; simp at this; omega⟩, fun g hg => by
            rcases List.mem_append.1 hg with hg | hg
            · exact HGM.out g hg
            · simp at hg; subst hg; exact HQ.out⟩
          case measure => simp [intOf]; omega
        · have hlt' : ¬ (k : Int) < n % 20 := by omega
          have hslm := (Sl.ok RGen.ok).mono (HOWN.out.sl RGen.ok) (fun _ _ => rfl) (S' := Lt wr.heap.size) (fun j hj => by rcases hj with hj | hj; exact (HS.out j hj).2; exact hj.2)
          have HSGM := hide (show SmallGs m from fun g hg => (HGM.out g hg).small)
          have HBW := hide (Ex.below HB3.out HB3.out.size hdw HEX.out)
          obtain ⟨wE, hwE⟩ : ∃ wE : World, wE = wr := ⟨_, rfl⟩
          rw [← hwE] at hslm HBW HDK
          have KM0 := hide hslm
          have HEX0 := hide (hwE ▸ HEX.out)
          obtain ⟨wF, hwF⟩ : ∃ W, W = wE.alloc (.cells #[.slice Aa raw.length ca, .slice A9 m.length c9] 53) := ⟨_, rfl⟩
          obtain ⟨l0, l1⟩ := two_cells hwF
          have hbF : Below wE.heap.size wE wF := by rw [hwF]; exact (Below.refl _ _).alloc (Nat.le_refl _) _
          have HBF := hide (HBW.out.trans (hbF.mono HBW.out.size))
          have HDKF := hide (show DeckAt wF d by rw [hwF]; exact HDK.out.alloc _)
          have hzF : wE.heap.size < wF.heap.size := by rw [hwF]; simp
          obtain ⟨gL, hgL⟩ : ∃ g, wE.heap.size = g := ⟨_, rfl⟩
          rw [hgL] at l0 l1 hzF
          have L0 := hide l0
          have L1 := hide l1
          have KR := hide ((Sl.ok RGen.ok).below K1.out HBF.out)
          have KM := hide ((Sl.ok RGen.ok).below KM0.out hbF)
          have HWF := hide hwF
          have HGL := hide hgL
          clear hslm hwF hbF hgL l0 l1 hk hlt HOWN HS HEX hgs HEX0 KM0
          go_upto_region 10 with fail
          rw [← hwE]
          clear hwE
          rw [← HWF.out]
          try rw [HGL.out]
          clear hlt' hN
          go_loopw [56] (fun i wr => ∃ j : Nat, j ≤ 2 ∧ i = .int .i64 j ∧ Below wF.heap.size wF wr) (fun i _ => 2 - (intOf i).toNat)
          case atStart => exact ⟨0, by omega, rfl, Below.refl _ _⟩
          case round =>
            obtain ⟨j, hj, rfl, hbr⟩ := hrel
            obtain ⟨wi, rfl⟩ : ∃ wi : World, wi = wr := ⟨_, rfl⟩
            have HBr := hide hbr
            match j, hj with
            | 0, _ =>
              have r0 := (hbr.cell (p := ⟨gL, 0, none⟩) hzF).trans L0.out
              clear hbr
              obtain ⟨o, ho⟩ : ∃ o, encGL raw = o := ⟨_, rfl⟩
              have EN := hide (fun W (hb : Below wF.heap.size wF W) => gEncodeL_any raw Aa ca HSR.out W (HMX.out.below (HBF.out.trans (hb.mono HBF.out.size))) ((Sl.ok RGen.ok).below KR.out hb))
              have REN := hide (fun W (hb : Below wF.heap.size wF W) => rEncodeL_any raw Aa ca HSR.out W (HMX.out.below (HBF.out.trans (hb.mono HBF.out.size))) ((Sl.ok RGen.ok).below KR.out hb))
              rw [ho] at EN REN
              obtain ⟨E, hE⟩ : ∃ E : ByteArray, (⟨o.1.toArray⟩ : ByteArray) = E := ⟨_, rfl⟩
              obtain ⟨ke, hke⟩ : ∃ k, o.2 = k := ⟨_, rfl⟩
              have HWR := hide (show wrapR o = .tuple #[.string E, .int .i64 ke] by rw [wrapR, hE, hke])
              have s2 : (E.toList != E.toList) = false := by simp
              have s3 : (ke != ke) = false := by simp
              clear ho hE hke
              go_wp2_with fail
              refine (EN.out _ HBr.out).mono ?_
              rintro e w5 ⟨rfl, hb5⟩
              rw [HWR.out]
              have HB5 := hide (HBr.out.trans (hb5.mono HBr.out.size))
              clear hb5 r0
              go_wp2_with fail
              refine (REN.out _ HB5.out).mono ?_
              rintro e w6 ⟨rfl, hb6⟩
              rw [HWR.out]
              have HB6 := hide (HB5.out.trans (hb6.mono HB5.out.size))
              clear hb6
              go_wp2_with fail
              go_roundw
              case rel => exact ⟨0 + 1, by omega, by go_num, HB6.out⟩
              case measure => simp [intOf]
            | 1, _ =>
              have r1 := (hbr.cell (p := ⟨gL, 1, none⟩) hzF).trans L1.out
              clear hbr
              obtain ⟨o, ho⟩ : ∃ o, encGL m = o := ⟨_, rfl⟩
              have EN := hide (fun W (hb : Below wF.heap.size wF W) => gEncodeL_any m A9 c9 HSGM.out W (HMX.out.below (HBF.out.trans (hb.mono HBF.out.size))) ((Sl.ok RGen.ok).below KM.out hb))
              have REN := hide (fun W (hb : Below wF.heap.size wF W) => rEncodeL_any m A9 c9 HSGM.out W (HMX.out.below (HBF.out.trans (hb.mono HBF.out.size))) ((Sl.ok RGen.ok).below KM.out hb))
              rw [ho] at EN REN
              obtain ⟨E, hE⟩ : ∃ E : ByteArray, (⟨o.1.toArray⟩ : ByteArray) = E := ⟨_, rfl⟩
              obtain ⟨ke, hke⟩ : ∃ k, o.2 = k := ⟨_, rfl⟩
              have HWR := hide (show wrapR o = .tuple #[.string E, .int .i64 ke] by rw [wrapR, hE, hke])
              have s2 : (E.toList != E.toList) = false := by simp
              have s3 : (ke != ke) = false := by simp
              clear ho hE hke
              go_wp2_with fail
              refine (EN.out _ HBr.out).mono ?_
              rintro e w5 ⟨rfl, hb5⟩
              rw [HWR.out]
              have HB5 := hide (HBr.out.trans (hb5.mono HBr.out.size))
              clear hb5 r1
              go_wp2_with fail
              refine (REN.out _ HB5.out).mono ?_
              rintro e w6 ⟨rfl, hb6⟩
              rw [HWR.out]
              have HB6 := hide (HB5.out.trans (hb6.mono HB5.out.size))
              clear hb6
              go_wp2_with fail
              go_roundw
              case rel => exact ⟨1 + 1, by omega, by go_num, HB6.out⟩
              case measure => simp [intOf]
            | 2, _ =>
              rw [show ((2 : Nat) : Int) = 2 from rfl]
              have HBG := hide (HBF.out.trans (hbr.mono HBF.out.size))
              have HDKG := hide (HDKF.out.below hbr)
              have KMG := hide ((Sl.ok RGen.ok).below KM.out hbr)
              clear hbr
              obtain ⟨-, hmc, hmm⟩ := KMG.out.len_
              unfold maxLen at hmm
              obtain ⟨wG, hwG⟩ : ∃ W : World, W = wi := ⟨_, rfl⟩
              have HWG := hide hwG
              rw [← hwG] at HBG HDKG KMG
              clear hwG
              go_wp2_with fail
              go_loopw [18, 81] (fun s i wr => ∃ (k : Nat) (y : ByteArray), k ≤ m.length ∧ i = .int .i64 k ∧ s = .string y ∧ Below wG.heap.size wG wr ∧ y.size ≤ k * 40010) (fun _ i _ => m.length - (intOf i).toNat)
              case atStart => exact ⟨0, ⟨#[]⟩, by omega, rfl, rfl, by rw [HWG.out]; exact Below.refl _ _, by simp [ByteArray.size]⟩
              case round =>
                obtain ⟨k, y, hk, rfl, rfl, hbr, hys⟩ := hrel
                obtain ⟨wj, rfl⟩ : ∃ wj : World, wj = wr := ⟨_, rfl⟩
                by_cases hlt : k < m.length
                · obtain ⟨b2, o2, t, A2, c2, hB, hbS, ht2, d0, d1, d2, hsl⟩ := KMG.out.genAt hlt
                  subst hB
                  have hbS' : b2 < wG.heap.size := hbS
                  have hgg := HGM.out m[k] (List.getElem_mem hlt)
                  obtain ⟨g, hg⟩ : ∃ g, m[k] = g := ⟨_, rfl⟩
                  rw [hg] at d0 d2 hsl ht2 hgg
                  obtain ⟨kb, t', nb⟩ := g
                  simp only at d0 d2 hsl ht2
                  subst ht2
                  have f0 := (hbr.cell (p := ⟨b2, o2 + k * 3, none⟩) hbS').trans d0
                  have f1 := (hbr.cell (p := ⟨b2, o2 + k * 3 + 1, none⟩) hbS').trans d1
                  have f2 := (hbr.cell (p := ⟨b2, o2 + k * 3 + 2, none⟩) hbS').trans d2
                  have hts : t.size ≤ 100 := by rw [← size_string]; exact hgg.len
                  have HSN := hide hgg.small.2
                  have HB := hide (HBG.out.trans (hbr.mono HBG.out.size))
                  have HBr := hide hbr
                  obtain ⟨wx, hwx⟩ : ∃ W, W = wj.alloc (.cells #[.int .i64 kb, .string t, .slice A2 nb.length c2] 50) := ⟨_, rfl⟩
                  obtain ⟨e0, e1, e2⟩ := gen_cells9 hwx
                  have hbx : Below wj.heap.size wj wx := by rw [hwx]; exact (Below.refl _ _).alloc (Nat.le_refl _) _
                  have HBX := hide (HB.out.trans (hbx.mono HB.out.size))
                  have HBXr := hide (hbr.trans (hbx.mono hbr.size))
                  have KN := hide ((Sl.ok RRdn.ok).below hsl (hbr.trans (hbx.mono hbr.size)))
                  obtain ⟨gx, hgx⟩ : ∃ g, wj.heap.size = g := ⟨_, rfl⟩
                  rw [hgx] at e0 e1 e2
                  obtain ⟨o, ho⟩ : ∃ o, encG (kb, t.data.toList, nb) false = o := ⟨_, rfl⟩
                  have hol : o.1.length ≤ 40010 := by rw [← ho]; exact encG_len hgg.len
                  obtain ⟨E, hE⟩ : ∃ E : ByteArray, (⟨o.1.toArray⟩ : ByteArray) = E := ⟨_, rfl⟩
                  have hEs : E.size ≤ 40010 := by rw [← hE, ba_mk]; exact hol
                  obtain ⟨ke, hke⟩ : ∃ k, o.2 = k := ⟨_, rfl⟩
                  have HWR := hide (show wrapR (encG (kb, t.data.toList, nb) false) = .tuple #[.string E, .int .i64 ke] by rw [ho, wrapR, hE, hke])
                  have hyb : y.size ≤ 760190 := Nat.le_trans hys (Nat.mul_le_mul_right 40010 (show k ≤ 19 by omega))
                  have hbs : ¬ 9223372036854775807 < y.size + E.size := by omega
                  have hus0 : (y ++ E).size ≤ (k + 1) * 40010 := by rw [ba_size, Nat.add_mul, Nat.one_mul]; exact Nat.add_le_add hys hEs
                  obtain ⟨u, hu⟩ : ∃ yy9 : ByteArray, y ++ E = yy9 := ⟨_, rfl⟩
                  rw [hu] at hus0
                  have HUS := hide hus0
                  clear hbr hbx d0 d1 d2 hsl hgg hbS hbS' hg hyb hus0 hys hol hE hke ho
                  go_upto_region 21 with fail
                  rw [← hwx]
                  try rw [hgx]
                  clear hwx hgx f0 f1 f2
                  go_wp2_with fail
                  refine (rEncodeG_any kb t nb false A2 c2 (by omega) HSN.out _ (HMX.out.below HBX.out) KN.out).mono ?_
                  rintro e w2 ⟨rfl, hb2⟩
                  rw [HWR.out]
                  have HB2 := hide (HBXr.out.trans (hb2.mono HBXr.out.size))
                  clear hb2 e0 e1 e2
                  go_wp2_with fail
                  go_roundw
                  case rel => exact ⟨k + 1, u, by omega, by go_num, rfl, HB2.out, HUS.out⟩
                  case measure => simp [intOf]; omega
                · have hyb : y.size ≤ 760190 := Nat.le_trans hys (Nat.mul_le_mul_right 40010 (show k ≤ 19 by omega))
                  have HB := hide (HBG.out.trans (hbr.mono HBG.out.size))
                  have HDKJ := hide (HDKG.out.below hbr)
                  clear hbr hys
                  go_wp2_with fail
                  refine (Damage_any d y (by omega) _ HDKJ.out).mono ?_
                  rintro e w4 ⟨y1, hy1, rfl, hd4, hx4⟩
                  have HB4 := hide (Ex.below HB.out HB.out.size hdw hx4)
                  clear hd4 hx4
                  obtain ⟨W0, hW0⟩ : ∃ W, W = w4.alloc (.cells #[.string b, .string y, .string y1] 9) := ⟨_, rfl⟩
                  have ht3 := T3.new w4 b y y1 (by have := HBS.out; omega) (by omega) (by omega)
                  rw [← hW0] at ht3
                  have HB0 := hide (show Below w.heap.size w W0 by rw [hW0]; exact HB4.out.alloc HB4.out.size _)
                  have hg0 : w4.heap.size < W0.heap.size := by rw [hW0]; simp
                  obtain ⟨g, hg⟩ : ∃ g, g = w4.heap.size := ⟨_, rfl⟩
                  rw [← hg] at ht3 hg0
                  have HT3 := hide ht3
                  go_wp2_with fail
                  rw [← hW0, ← hg]
                  clear hW0 hg ht3
                  go_loopw [101] (fun i wr => ∃ k : Nat, k ≤ 3 ∧ i = .int .i64 k ∧ Below W0.heap.size W0 wr) (fun i _ => 3 - (intOf i).toNat)
                  case atStart => exact ⟨0, by omega, rfl, Below.refl _ _⟩
                  case round =>
                    obtain ⟨k, hk, rfl, hb⟩ := hrel
                    obtain ⟨wq, rfl⟩ : ∃ wq : World, wq = wr := ⟨_, rfl⟩
                    have HB := hide (HB0.out.trans (hb.mono HB0.out.size))
                    by_cases hlt : k < 3
                    · obtain ⟨z, hzs, hcell0⟩ := HT3.out k hlt
                      have hcell := (hb.cell (p := ⟨g, k, none⟩) hg0).trans hcell0
                      have HBr := hide hb
                      obtain ⟨o, ho⟩ : ∃ o, toGs (decGLs z.data.toList) = o := ⟨_, rfl⟩
                      have HO := hide ho
                      clear hcell0 hb ho
                      go_wp2_with fail
                      refine (gDecodeL_any z (by omega) _ (HMX.out.below HB.out) (HTB.out.below HB.out)).mono ?_
                      rintro e w7 ⟨A7, c7, he7, hsl7, hb7, hsm7⟩
                      rw [HO.out] at he7 hsl7
                      subst he7
                      have HB7r := hide (HBr.out.trans (hb7.mono HBr.out.size))
                      have HB7 := hide (HB0.out.trans (HB7r.out.mono HB0.out.size))
                      have HSL7 := hide hsl7
                      clear hb7 hcell hsl7 hsm7
                      obtain ⟨kq, hkq⟩ : ∃ kq, o.1 = kq := ⟨_, rfl⟩
                      rw [hkq]
                      go_wp2_with fail
                      refine (rDecodeL_any z (by omega) _ (HMX.out.below HB7.out) (HTB.out.below HB7.out)).mono ?_
                      rintro e w8 ⟨A8, c8, he8, hsl8, hb8, hsm8⟩
                      rw [HO.out, hkq] at he8
                      rw [HO.out] at hsl8
                      subst he8
                      have HB8r := hide (HB7r.out.trans (hb8.mono HB7r.out.size))
                      have HEXC := hide (ExactGs_same o.2 A7 A8 c7 c8 w8 ((Sl.ok RGen.ok).below HSL7.out hb8) hsl8)
                      have hqq : (kq != kq) = false := by simp
                      clear hb8 hsl8 hsm8 hkq
                      go_wp2_with fail
                      refine HEXC.out.mono ?_
                      rintro e w10 ⟨rfl, hb10⟩
                      have HB10 := hide (HB8r.out.trans (hb10.mono HB8r.out.size))
                      clear hb10
                      go_wp2_with fail
                      go_roundw
                      case rel => exact ⟨k + 1, by omega, by go_num, HB10.out⟩
                      case measure => simp [intOf]; omega
                    · clear hb
                      go_wp2_with fail
                      refine (awake9_any _ (HMX.out.below HB.out)).mono ?_
                      rintro e wz ⟨rfl, hbz⟩
                      go_wp2_with fail
                      go_ret
                      exact ⟨rfl, HB.out.trans (hbz.mono HB.out.size)⟩
end Go.Proofs.YtinmfgbdadchjaaGreatDoor
