/- The element of a part of name constraints, both sides. -/
import Derived.Test.YtahamclodagihaaGreatDoorTSbA
namespace Go.Proofs.YtahamclodagihaaGreatDoor
open Go.RowKit
def limV (k : Int) : Option (List UInt8) → Value
 | none => .tuple #[.string ⟨#[]⟩, .int .i64 k]
 | some b => .tuple #[.string ⟨b.toArray⟩, .int .i64 0]
theorem treeB_len2 {g : Gen} (h : chkG g true = 0) (hs : g.2.1.length ≤ 100000) : (treeB g).length ≤ 100015 := by
 have h1 := treeB_len g
 have h2 := encGB_len h hs
 omega
set_option maxRecDepth 100000 in
set_option maxHeartbeats 8000000 in
theorem encPart_any (t : Nat) (ht : t < 256) (ht31 : t % 32 ≠ 31) (l : List Gen) (A : Option Addr) (c : Nat) (hck : ∀ g ∈ l, chkG g true = 0) (hss : SmallGs l) (h16 : l.length ≤ 16) (w : World) (hmx : Mx w) (h : Sl RGen 3 w (Lt w.heap.size) l [.slice A l.length c]) :
    Calls Tryz.prog 92 #[.int .i64 (t : Int), .slice A l.length c] w fun e w' => e = .returned (limV 6 (partO t l)) ∧ Below w.heap.size w w' := by
  obtain ⟨-, hnc, hcm⟩ := h.len_
  unfold maxLen at hcm
  have HMX := hide hmx
  have K := hide h
  have HSS := hide hss
  have HCK := hide hck
  obtain ⟨o, ho⟩ : ∃ o, partO t l = o := ⟨_, rfl⟩
  rw [ho]
  have HO := hide ho
  clear hmx h hss hck ho
  by_cases h0 : l.length = 0
  · have t0 : ((l.length : Int) == 0) = true := by rw [h0]; rfl
    have HN := hide (show o = some [] by rw [← HO.out, partO, if_pos h0])
    clear h0
    go_enter Tryz.func92, Tryz.ntmps92
    go_wp2_with fail
    go_ret2
    exact ⟨by rw [HN.out]; rfl, Below.refl _ _⟩
  · have t0 : ((l.length : Int) == 0) = false := beq_false_of_ne (by omega)
    have HO2 := hide (show o = wrapO t (l.flatMap treeB) by rw [← HO.out, partO, if_neg h0])
    obtain ⟨base, hbase⟩ : ∃ b, b = w.heap.size := ⟨_, rfl⟩
    have hgs0 : base ≤ w.heap.size := by omega
    have hbw : w.heap.size ≤ base := by omega
    clear h0 hbase
    go_enter Tryz.func92, Tryz.ntmps92
    go_wp2_with fail
    go_loopw [6, 17] (fun v i wr => ∃ (k : Nat) (out : List (List UInt8)), k ≤ l.length ∧ i = .int .i64 k ∧ out.length = k ∧ Own RStr 1 9 wr base No v out ∧ Below w.heap.size w wr ∧ base ≤ wr.heap.size ∧ Hid (out = (l.take k).map treeB)) (fun _ i _ => l.length - (intOf i).toNat)
    case atStart => exact ⟨0, [], by omega, rfl, rfl, Own.nil _ _ _ _ _ _, Below.refl _ _, hgs0, hide (by simp)⟩
    case round =>
      obtain ⟨k, out, hk, rfl, hol, hown, hb, hgs, HOUT⟩ := hrel
      have HOWN := hide hown
      have HOL := hide hol
      by_cases hlt : k < l.length
      · have hol16 : out.length ≤ 16 := by omega
        obtain ⟨b2, o2, t1, A2, c2, hB, hbS, ht2, d0, d1, d2, hsl⟩ := K.out.genAt hlt
        subst hB
        have hbS' : b2 < w.heap.size := hbS
        have hsg := HSS.out l[k] (List.getElem_mem hlt)
        have hck := HCK.out l[k] (List.getElem_mem hlt)
        have hstep := map_step treeB l k hlt rfl
        obtain ⟨g, hg⟩ : ∃ g, l[k] = g := ⟨_, rfl⟩
        rw [hg] at d0 d2 hsl ht2 hsg hck hstep
        obtain ⟨kb, t', nb⟩ := g
        simp only at d0 d2 hsl ht2
        subst ht2
        have f0 := (hb.cell (p := ⟨b2, o2 + k * 3, none⟩) hbS').trans d0
        have f1 := (hb.cell (p := ⟨b2, o2 + k * 3 + 1, none⟩) hbS').trans d1
        have f2 := (hb.cell (p := ⟨b2, o2 + k * 3 + 2, none⟩) hbS').trans d2
        have hts : t1.size ≤ 100000 := by rw [← size_string]; exact hsg.1
        have HSN := hide hsg.2
        have HG0 := hide hck
        have HSTEP := hide hstep
        obtain ⟨wj, hwj⟩ : ∃ W, W = wr.alloc (.cells #[.int .i64 kb, .string t1, .slice A2 nb.length c2] 62) := ⟨_, rfl⟩
        obtain ⟨e0, e1, e2⟩ := gen_cells9 hwj
        have hbj : Below wr.heap.size wr wj := by rw [hwj]; exact (Below.refl _ _).alloc (Nat.le_refl _) _
        have HBR := hide hbj
        have HBJ := hide (hb.trans (hbj.mono hb.size))
        have HSL := hide ((Sl.ok RRdn.ok).below hsl (hb.trans (hbj.mono hb.size)))
        obtain ⟨gx, hgx⟩ : ∃ g, wr.heap.size = g := ⟨_, rfl⟩
        rw [hgx] at e0 e1 e2
        obtain ⟨X, hX⟩ : ∃ X : ByteArray, X = ⟨(encGB (kb, t1.data.toList, nb)).toArray⟩ := ⟨_, rfl⟩
        have hXs : X.size ≤ 100010 := by rw [hX, ba_mk]; exact encGB_len hck hsg.1
        obtain ⟨Y, hY⟩ : ∃ Y : ByteArray, Y = ⟨(treeB (kb, t1.data.toList, nb)).toArray⟩ := ⟨_, rfl⟩
        have hYs : Y.size ≤ 100015 := by rw [hY, ba_mk]; exact treeB_len2 hck hsg.1
        have HYD := hide (show Y.data.toList = treeB (kb, t1.data.toList, nb) by rw [hY])
        have HE := hide (show wrapR (encG (kb, t1.data.toList, nb) true) = .tuple #[.string X, .int .i64 0] by rw [encG, if_pos HG0.out, wrapR, hX])
        have HYX := hide (show (⟨(wrapW 48 X.data.toList).toArray⟩ : ByteArray) = Y by rw [hX, hY]; rfl)
        obtain ⟨A6, c6, hv6⟩ := (hown.sl RStr.ok).shape
        subst hv6
        have HW := hide (show ∀ W : World, Calls Tryz.prog 55 #[.int .i64 48, .slice (some ⟨W.heap.size, 0, none⟩) 1 1] (W.alloc (.cells #[.string X] 9)) fun e9 w' => e9 = .returned (.tuple #[.string Y, .int .i64 0]) ∧ Below W.heap.size W w' from fun W => by
          have := wrap_one 48 (by omega) (by omega) X (by omega) _ (wrapF_one (t := 48) (x := X) (by omega)) W
          rw [wrapR, HYX.out] at this
          exact this)
        clear hb hbj d0 d1 d2 hsl hsg hck hstep hbS hbS' hg hown hol hX hY
        go_upto_region 7 with fail
        rw [← hwj]
        try rw [hgx]
        clear hwj hgx f0 f1 f2
        go_wp2_with fail
        refine (gEncode_any kb t1 nb true A2 c2 hts HSN.out _ (HMX.out.below HBJ.out) HSL.out).mono ?_
        rintro e w2 ⟨rfl, hb2⟩
        rw [HE.out]
        have HB2 := hide (HBJ.out.trans (hb2.mono HBJ.out.size))
        have HB2R := hide (HBR.out.trans (hb2.mono HBR.out.size))
        clear hb2 e0 e1 e2
        go_wp2_with fail
        refine (HW.out _).mono ?_
        rintro e w3 ⟨rfl, hb3⟩
        have HB3 := hide (HB2.out.trans (hb3.mono HB2.out.size))
        have HO3 := hide (HOWN.out.below RStr.ok (no_lt _) (HB2R.out.trans (hb3.mono HB2R.out.size)))
        have hz3 := HB2R.out.size
        have hz4 := hb3.size
        clear hb3
        go_wp2_with (at_builtin; refine wpList_app RStr.ok _ rfl (.tmp 38) (.tmp 40) 55 rfl base 9 (.string ⟨#[]⟩) 16 Tryz.underlying55 info_str rfl (by decide) No _ out rfl (HO3.out.alloc RStr.ok (no_lt _) _) ⟨_, 0, none⟩ 1 1 [Y.data.toList] rfl rfl (news_s1 _ _ _ Y) (no_lt _) (by simp; omega) (by simp [maxLen]; omega) (by simp; omega) ?_; intro v6 w6 hown6 hg6 hb6 hat6; have hsz6 := hb6.size; simp at hsz6)
        go_roundw
        case rel => exact ⟨k + 1, out ++ [Y.data.toList], by omega, by go_num, by simp [HOL.out], hown6, (HB3.out.alloc HB3.out.size _).trans (hb6.mono hbw), by omega, hide (by rw [HYD.out, HSTEP.out, HOUT.out])⟩
        case measure => simp [intOf]; omega
      · have hall : out = l.map treeB := by
          have := HOUT.out
          rwa [List.take_of_length_le (by omega)] at this
        have hmem : ∀ x ∈ out, x.length ≤ 1000000000 := fun x hx => by
          rw [hall] at hx
          obtain ⟨g, hg, rfl⟩ := List.mem_map.1 hx
          have := treeB_len2 (HCK.out g hg) (HSS.out g hg).1
          omega
        have hslO := (Sl.ok RStr.ok).mono (hown.sl RStr.ok) (S' := Lt wr.heap.size) (fun _ _ => rfl) (fun j hj => by rcases hj with hj | hj; exact hj.elim; exact hj.2)
        obtain ⟨A7, c7, hv7⟩ := hslO.shape
        subst hv7
        have HR := hide (show wrapR (wrapF t out) = limV 6 o by
          rw [HO2.out, wrapF, wrapO, hall, ← List.flatMap_def]
          split <;> rfl)
        have HW := hide (show Calls Tryz.prog 55 #[.int .i64 (t : Int), .slice A7 out.length c7] wr fun e9 w' => e9 = .returned (limV 6 o) ∧ Below wr.heap.size wr w' by
          have := Wrap_any t ht ht31 out A7 c7 (by omega) hmem wr hslO
          rw [HR.out] at this
          exact this)
        have HB := hide hb
        clear hown hol hall hmem hslO hb
        go_wp2_with fail
        refine HW.out.mono ?_
        rintro e w7 ⟨rfl, hb7⟩
        have HB7 := hide (HB.out.trans (hb7.mono HB.out.size))
        clear hb7
        cases o with
        | none =>
          rw [limV]
          go_wp2_with fail
          go_ret2
          exact ⟨rfl, HB7.out⟩
        | some b =>
          rw [limV]
          go_wp2_with fail
          go_ret2
          exact ⟨rfl, HB7.out⟩
end Go.Proofs.YtahamclodagihaaGreatDoor
