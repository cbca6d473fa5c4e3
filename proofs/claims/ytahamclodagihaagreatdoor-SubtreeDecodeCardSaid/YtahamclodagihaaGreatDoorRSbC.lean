/- The element of a part of name constraints, both sides. -/
import Derived.Test.YtahamclodagihaaGreatDoorRSbA
namespace Go.Proofs.YtahamclodagihaaGreatDoor
open Go.RowKit
def limV (k : Int) : Option (List UInt8) → Value
 | none => .tuple #[.string ⟨#[]⟩, .int .i64 k]
 | some b => .tuple #[.string ⟨b.toArray⟩, .int .i64 0]
theorem treeB_len2 {g : Gen} (h : chkG g true = 0) (hs : g.2.1.length ≤ 100000) : (treeB g).length ≤ 100015 := by
 have h1 := treeB_len g
 have h2 := encGB_len h hs
 omega
theorem tflat_step (l : List Gen) (k : Nat) (h : k < l.length) : (l.take (k + 1)).flatMap treeB = (l.take k).flatMap treeB ++ treeB l[k] := by
 rw [List.take_succ_eq_append_getElem h, List.flatMap_append, List.flatMap_cons, List.flatMap_nil, List.append_nil]
set_option maxRecDepth 100000 in
set_option maxHeartbeats 8000000 in
theorem rPart_any (t : Nat) (ht : t < 256) (ht31 : t % 32 ≠ 31) (l : List Gen) (A : Option Addr) (c : Nat) (hck : ∀ g ∈ l, chkG g true = 0) (hss : SmallGs l) (h16 : l.length ≤ 16) (w : World) (hmx : Mx w) (h : Sl RGen 3 w (Lt w.heap.size) l [.slice A l.length c]) :
    Calls Tryz.prog 79 #[.int .i64 (t : Int), .slice A l.length c] w fun e w' => e = .returned (limV 2 (partO t l)) ∧ Below w.heap.size w w' := by
  obtain ⟨-, hnc, hcm⟩ := h.len_
  unfold maxLen at hcm
  have HMX := hide hmx
  have K := hide h
  have HSS := hide hss
  have HCK := hide hck
  obtain ⟨o, ho⟩ : ∃ o, partO t l = o := ⟨_, rfl⟩
  rw [ho]
  have HO := hide ho
  clear hmx h hss hck ho
  by_cases h0 : l.length = 0
  · have t0 : ((l.length : Int) == 0) = true := by rw [h0]; rfl
    have HN := hide (show o = some [] by rw [← HO.out, partO, if_pos h0])
    clear h0
    go_enter Tryz.func79, Tryz.ntmps79
    go_wp2_with fail
    go_ret2
    exact ⟨by rw [HN.out]; rfl, Below.refl _ _⟩
  · have t0 : ((l.length : Int) == 0) = false := beq_false_of_ne (by omega)
    have HO2 := hide (show wrapO t (l.flatMap treeB) = o by rw [← HO.out, partO, if_neg h0])
    clear h0
    go_enter Tryz.func79, Tryz.ntmps79
    go_wp2_with fail
    go_loopw [6, 16] (fun s i wr => ∃ (k : Nat) (y : ByteArray), k ≤ l.length ∧ i = .int .i64 k ∧ s = .string y ∧ Below w.heap.size w wr ∧ y.size ≤ k * 100015 ∧ Hid (y.data.toList = (l.take k).flatMap treeB)) (fun _ i _ => l.length - (intOf i).toNat)
    case atStart => exact ⟨0, ⟨#[]⟩, by omega, rfl, rfl, Below.refl _ _, by simp [ByteArray.size], hide (by simp)⟩
    case round =>
      obtain ⟨k, y, hk, rfl, rfl, hb, hys, HYL⟩ := hrel
      by_cases hlt : k < l.length
      · obtain ⟨b2, o2, t1, A2, c2, hB, hbS, ht2, d0, d1, d2, hsl⟩ := K.out.genAt hlt
        subst hB
        have hbS' : b2 < w.heap.size := hbS
        have hsg := HSS.out l[k] (List.getElem_mem hlt)
        have hck := HCK.out l[k] (List.getElem_mem hlt)
        have hstep := tflat_step l k hlt
        obtain ⟨g, hg⟩ : ∃ g, l[k] = g := ⟨_, rfl⟩
        rw [hg] at d0 d2 hsl ht2 hsg hck hstep
        obtain ⟨kb, t', nb⟩ := g
        simp only at d0 d2 hsl ht2
        subst ht2
        have f0 := (hb.cell (p := ⟨b2, o2 + k * 3, none⟩) hbS').trans d0
        have f1 := (hb.cell (p := ⟨b2, o2 + k * 3 + 1, none⟩) hbS').trans d1
        have f2 := (hb.cell (p := ⟨b2, o2 + k * 3 + 2, none⟩) hbS').trans d2
        have hts : t1.size ≤ 100000 := by rw [← size_string]; exact hsg.1
        have HSN := hide hsg.2
        have HG0 := hide hck
        have HSTEP := hide hstep
        obtain ⟨wj, hwj⟩ : ∃ W, W = wr.alloc (.cells #[.int .i64 kb, .string t1, .slice A2 nb.length c2] 62) := ⟨_, rfl⟩
        obtain ⟨e0, e1, e2⟩ := gen_cells9 hwj
        have hbj : Below wr.heap.size wr wj := by rw [hwj]; exact (Below.refl _ _).alloc (Nat.le_refl _) _
        have HBR := hide hbj
        have HBJ := hide (hb.trans (hbj.mono hb.size))
        have HSL := hide ((Sl.ok RRdn.ok).below hsl (hb.trans (hbj.mono hb.size)))
        obtain ⟨gx, hgx⟩ : ∃ g, wr.heap.size = g := ⟨_, rfl⟩
        rw [hgx] at e0 e1 e2
        obtain ⟨X, hX⟩ : ∃ X : ByteArray, X = ⟨(encGB (kb, t1.data.toList, nb)).toArray⟩ := ⟨_, rfl⟩
        have hXs : X.size ≤ 100010 := by rw [hX, ba_mk]; exact encGB_len hck hsg.1
        obtain ⟨Y, hY⟩ : ∃ Y : ByteArray, Y = ⟨(treeB (kb, t1.data.toList, nb)).toArray⟩ := ⟨_, rfl⟩
        have hYs : Y.size ≤ 100015 := by rw [hY, ba_mk]; exact treeB_len2 hck hsg.1
        have HYD := hide (show Y.data.toList = treeB (kb, t1.data.toList, nb) by rw [hY])
        have HE := hide (show wrapR (encG (kb, t1.data.toList, nb) true) = .tuple #[.string X, .int .i64 0] by rw [encG, if_pos HG0.out, wrapR, hX])
        have HYX := hide (show (⟨(wrapW 48 X.data.toList).toArray⟩ : ByteArray) = Y by rw [hX, hY]; rfl)
        have HW := hide (show ∀ W : World, Calls Tryz.prog 57 #[.int .i64 48, .slice (some ⟨W.heap.size, 0, none⟩) 1 1] (W.alloc (.cells #[.string X] 9)) fun e9 w' => e9 = .returned (.string Y) ∧ Below W.heap.size W w' from fun W => wrap7_one 48 (by omega) X (by omega) Y (by
          rw [wrapG_at (by omega), wrapF_one (by omega), HYX.out]) W)
        have hyb : y.size ≤ 1600240 := Nat.le_trans hys (Nat.mul_le_mul_right 100015 (Nat.le_trans hk h16))
        have hbs : ¬ 9223372036854775807 < y.size + Y.size := by omega
        have HZ := hide (show (y ++ Y).data.toList = (l.take (k + 1)).flatMap treeB by rw [HSTEP.out, ← HYL.out, ← HYD.out]; simp [ByteArray.data_append])
        have hus0 : (y ++ Y).size ≤ (k + 1) * 100015 := by rw [ba_size, Nat.add_mul, Nat.one_mul]; exact Nat.add_le_add hys hYs
        obtain ⟨u, hu⟩ : ∃ yy9 : ByteArray, y ++ Y = yy9 := ⟨_, rfl⟩
        rw [hu] at HZ hus0
        have HUS := hide hus0
        clear hb hbj d0 d1 d2 hsl hsg hck hstep hbS hbS' hg hX hY hyb hus0 hys
        go_upto_region 7 with fail
        rw [← hwj]
        try rw [hgx]
        clear hwj hgx f0 f1 f2
        go_wp2_with fail
        refine (rEncodeG_any kb t1 nb true A2 c2 hts HSN.out _ (HMX.out.below HBJ.out) HSL.out).mono ?_
        rintro e w2 ⟨rfl, hb2⟩
        rw [HE.out]
        have HB2 := hide (HBJ.out.trans (hb2.mono HBJ.out.size))
        clear hb2 e0 e1 e2
        go_wp2_with fail
        refine (HW.out _).mono ?_
        rintro e w3 ⟨rfl, hb3⟩
        have HB3 := hide (HB2.out.trans (hb3.mono HB2.out.size))
        clear hb3
        go_wp2_with fail
        go_roundw
        case rel => exact ⟨k + 1, u, by omega, by go_num, rfl, HB3.out, HUS.out, HZ⟩
        case measure => simp [intOf]; omega
      · have hyb : y.size ≤ 1600240 := Nat.le_trans hys (Nat.mul_le_mul_right 100015 (Nat.le_trans hk h16))
        have HYO := hide (show wrapO t y.data.toList = o by rw [← HO2.out, HYL.out, List.take_of_length_le (by omega)])
        have HF := hide (fun W => fit_one t ht ht31 y (by omega) o HYO.out W)
        have HB := hide hb
        clear hb hys hyb
        go_wp2_with fail
        refine (HF.out _).mono ?_
        rintro e w7 ⟨rfl, hb7⟩
        have HB7 := hide (HB.out.trans (hb7.mono HB.out.size))
        clear hb7
        cases o with
        | none =>
          rw [fitR]
          go_wp2_with fail
          go_ret2
          exact ⟨rfl, HB7.out⟩
        | some b =>
          rw [fitR]
          go_wp2_with fail
          go_ret2
          exact ⟨rfl, HB7.out⟩
end Go.Proofs.YtahamclodagihaaGreatDoor
