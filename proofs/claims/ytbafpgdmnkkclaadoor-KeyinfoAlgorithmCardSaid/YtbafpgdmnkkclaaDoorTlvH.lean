/- Elements: the reference's Wrap; Wrap, OID, Fit of the reference's next layer. -/
import Derived.Test.YtbafpgdmnkkclaaDoorTlvA
import Derived.Test.YtbafpgdmnkkclaaDoorTlv1
namespace Go.Proofs.YtbafpgdmnkkclaaDoor
open Go.RowKit

def wrapG (t : Nat) (xs : List (List UInt8)) : List UInt8 × Int := if t % 32 = 31 then ([], 5) else wrapF t xs
theorem sl_lit (w : World) (C : Array Value) (t : TypeId) (l : List UInt8) (hC : C.toList = l.map fun b => Value.int .u8 (b.toNat : Int)) (hl : l.length ≤ maxLen) :
    Sl RByte 1 (w.alloc (.cells C t)) (Lt (w.alloc (.cells C t)).heap.size) l [.slice (some ⟨w.heap.size, 0, none⟩) l.length l.length] := by
  refine ⟨_, _, rfl, Nat.le_refl _, hl, fun _ => ⟨w.heap.size, 0, rfl, by show _ < _; simp, fun i x hx => ?_⟩⟩
  obtain ⟨cs, h1, h2⟩ := news_bytes w (Lt (w.alloc (.cells C t)).heap.size) C t l hC i x hx
  refine ⟨cs, h1, fun j u hu => ?_⟩
  have := h2 j u hu
  rw [Addr.add_lit] at this
  exact this
theorem conv_lit (w : World) (C : Array Value) (l : List UInt8) (hC : C.toList = l.map fun b => Value.int .u8 (b.toNat : Int)) (hl : l.length ≤ maxLen) (y : ByteArray) (hy : y = ⟨l.toArray⟩) :
    (convert 56 9 (.slice (some ⟨w.heap.size, 0, none⟩) l.length l.length)).run Tryd.prog (w.alloc (.cells C 5)) = .ok (.string y) (w.alloc (.cells C 5)) := by
  subst hy
  exact run_bts_str (P := Tryd.prog) _ 56 9 5 Tryd.underlying56 Tryd.underlying5 Tryd.underlying9 _ _ _ (sl_lit w C 5 l hC hl)


set_option maxRecDepth 100000 in
set_option maxHeartbeats 8000000 in
theorem rWrap_any (t : Nat) (ht : t < 256) (xs : List (List UInt8)) (A : Option Addr) (c : Nat) (hx : xs.flatten.length ≤ 1000000000000) (w : World) (h : Sl RStr 1 w (Lt w.heap.size) xs [.slice A xs.length c]) :
    Calls Tryd.prog 16 #[.int .i64 (t : Int), .slice A xs.length c] w fun e w' => e = .returned (wrapR (wrapG t xs)) ∧ Below w.heap.size w w' := by
  obtain ⟨-, hnc, hcm⟩ := h.len_
  unfold maxLen at hcm
  have HS := hide h
  obtain ⟨r, hr⟩ : ∃ r, wrapG t xs = r := ⟨_, rfl⟩
  rw [hr]
  have HR := hide hr
  obtain ⟨m, hm⟩ : ∃ m, t % 32 = m := ⟨_, rfl⟩
  have b31 : (t : Int) % 32 = (m : Int) := by omega
  have ht0 : (0 : Int) ≤ (t : Int) := by omega
  have ht255 : (t : Int) ≤ 255 := by omega
  clear h hr
  by_cases h31 : m = 31
  · have t31 : ((m : Int) == 31) = true := by rw [h31]; rfl
    have HN := hide (show r = ([], 5) by rw [← HR.out, wrapG, if_pos (by omega)])
    clear h31 hm
    go_enter Tryd.func16, Tryd.ntmps16
    go_wp2_with fail
    go_ret2
    exact ⟨by rw [HN.out]; rfl, Below.refl _ _⟩
  · have t31 : ((m : Int) == 31) = false := beq_false_of_ne (by omega)
    have HR1 := hide (show r = wrapF t xs by rw [← HR.out, wrapG, if_neg (by omega)])
    clear h31 hm
    go_enter Tryd.func16, Tryd.ntmps16
    go_wp2_with fail
    clear b31
    go_loopw [6, 24] (fun s i wr => w = wr ∧ ∃ k : Nat, k ≤ xs.length ∧ i = .int .i64 k ∧ s = .string ⟨(xs.take k).flatten.toArray⟩) (fun _ i _ => xs.length - (intOf i).toNat)
    case atStart => exact ⟨rfl, 0, Nat.zero_le _, rfl, rfl⟩
    case round =>
      obtain ⟨rfl, k, hk, rfl, rfl⟩ := hrel
      by_cases hkl : k < xs.length
      · obtain ⟨bk, o, hA, hb, hc⟩ := HS.out.strAt hkl
        subst hA
        have hfl : (xs.take (k + 1)).flatten = (xs.take k).flatten ++ xs[k] := by rw [List.take_succ_eq_append_getElem hkl, List.flatten_append]; simp
        have hle := flat_take_le xs (k + 1)
        rw [hfl, List.length_append] at hle
        obtain ⟨a, ha⟩ : ∃ a : ByteArray, a = ⟨(xs.take k).flatten.toArray⟩ := ⟨_, rfl⟩
        obtain ⟨b, hb'⟩ : ∃ b : ByteArray, b = ⟨xs[k].toArray⟩ := ⟨_, rfl⟩
        have hza : a.size = (xs.take k).flatten.length := by rw [ha, ba_mk]
        have hzb : b.size = xs[k].length := by rw [hb', ba_mk]
        have HAB := hide (show a ++ b = ⟨(xs.take (k + 1)).flatten.toArray⟩ by rw [ha, hb', ba_app, hfl])
        rw [← ha]
        rw [← hb'] at hc
        have hbs : ¬ 9223372036854775807 < a.size + b.size := by omega
        obtain ⟨y, hy⟩ : ∃ y : ByteArray, a ++ b = y := ⟨_, rfl⟩
        have HY := hide hy
        clear hfl hle ha hb' hza hzb
        go_wp2_with fail
        go_roundw
        case rel => exact ⟨trivial, k + 1, by omega, by go_num, by rw [← HAB.out, HY.out]⟩
        case measure => simp [intOf]; omega
      · have hke : k = xs.length := by omega
        subst hke
        rw [List.take_length]
        obtain ⟨y, hy⟩ : ∃ y : ByteArray, y = ⟨xs.flatten.toArray⟩ := ⟨_, rfl⟩
        rw [← hy]
        obtain ⟨m, hm⟩ : ∃ m, xs.flatten.length = m := ⟨_, rfl⟩
        have hys : y.size = m := by rw [hy, ba_mk, hm]
        have HY := hide hy
        have HM := hide hm
        clear hy hm hk
        by_cases hbig : 131072 < m
        · have HN := hide (show r = ([], 6) by rw [HR1.out, wrapF, if_pos (by rw [HM.out]; exact hbig)])
          go_wp2_with fail
          go_ret2
          exact ⟨by rw [HN.out]; rfl, Below.refl _ _⟩
        · have HR2 := hide (show r = (wrapW t xs.flatten, 0) by rw [HR1.out, wrapF, if_neg (by rw [HM.out]; exact hbig)])
          have ut := u8_of t
          obtain ⟨c0, hc0⟩ : ∃ c0, UInt8.ofNat t = c0 := ⟨_, rfl⟩
          rw [hc0] at ut
          have HC0 := hide hc0
          have um := u8_of m
          obtain ⟨c1, hc1⟩ : ∃ c1, UInt8.ofNat m = c1 := ⟨_, rfl⟩
          rw [hc1] at um
          have hmi : (m : Int) ≤ 131072 := by omega
          have hb0 := Below.refl w.heap.size w
          clear hc0
          by_cases h1 : m < 128
          · have HL := hide (show lenB m = [c1] by rw [lenB, if_pos h1, hc1])
            have h1i : ¬ (128 : Int) ≤ (m : Int) := by omega
            have h2i : ¬ (256 : Int) ≤ (m : Int) := by omega
            have h3i : ¬ (65536 : Int) ≤ (m : Int) := by omega
            clear hc1 hbig h1
            have hcv : (convert 56 9 (.slice (some ⟨w.heap.size, 0, none⟩) 2 2)).run Tryd.prog (World.alloc w (.cells #[.int .u8 (c0.toNat : Int), .int .u8 (c1.toNat : Int)] 5)) = .ok (.string ⟨([c0, c1]).toArray⟩) (World.alloc w (.cells #[.int .u8 (c0.toNat : Int), .int .u8 (c1.toNat : Int)] 5)) := by
              have := conv_lit w #[.int .u8 (c0.toNat : Int), .int .u8 (c1.toNat : Int)] [c0, c1] rfl (by simp [maxLen]) ⟨([c0, c1]).toArray⟩ rfl
              first | exact this | (rw [World.size_alloc] at this; exact this)
            obtain ⟨yh, hyh⟩ : ∃ yh : ByteArray, yh = ⟨([c0, c1]).toArray⟩ := ⟨_, rfl⟩
            have hyhs : yh.size = 2 := by rw [hyh]; rfl
            rw [← hyh] at hcv
            have hb9 : Below w.heap.size w (World.alloc w (.cells #[.int .u8 (c0.toNat : Int), .int .u8 (c1.toNat : Int)] 5)) := hb0.alloc (by omega) _
            go_upto_region 19 with fail
            obtain ⟨W9, hW9⟩ : ∃ W, W = World.alloc w (.cells #[.int .u8 (c0.toNat : Int), .int .u8 (c1.toNat : Int)] 5) := ⟨_, rfl⟩
            rw [← hW9] at hcv hb9 ⊢
            have hbs : ¬ 9223372036854775807 < yh.size + y.size := by omega
            obtain ⟨z, hz⟩ : ∃ z : ByteArray, z = yh ++ y := ⟨_, rfl⟩
            have hz2 : yh ++ y = z := hz.symm
            have HZ := hide (show z = ⟨(([c0, c1]) ++ xs.flatten).toArray⟩ by rw [hz, hyh, HY.out]; exact ba_app _ _)
            have HB9 := hide hb9
            clear hW9 hz hyh hyhs hb9 hb0
            go_wp2_with fail
            go_ret2
            refine ⟨?_, HB9.out⟩
            rw [HR2.out, wrapR, HZ.out]
            simp only [wrapW, HM.out, HL.out, HC0.out]
            rfl
          · have hb0 := hb0.alloc (Nat.le_refl _) (.cells #[.int .u8 (c0.toNat : Int), .int .u8 (c1.toNat : Int)] 5)
            have hsz0 : w.heap.size ≤ (w.alloc (.cells #[.int .u8 (c0.toNat : Int), .int .u8 (c1.toNat : Int)] 5)).heap.size := by simp
            by_cases h2 : m < 256
            · have HL := hide (show lenB m = [129, c1] by rw [lenB, if_neg h1, if_pos h2, hc1])
              have h1i : (128 : Int) ≤ (m : Int) := by omega
              have h2i : ¬ (256 : Int) ≤ (m : Int) := by omega
              have h3i : ¬ (65536 : Int) ≤ (m : Int) := by omega
              clear hc1 hbig h1 h2
              have hcv : (convert 56 9 (.slice (some ⟨(w.heap.size + 1), 0, none⟩) 3 3)).run Tryd.prog (World.alloc (w.alloc (.cells #[.int .u8 (c0.toNat : Int), .int .u8 (c1.toNat : Int)] 5)) (.cells #[.int .u8 (c0.toNat : Int), .int .u8 129, .int .u8 (c1.toNat : Int)] 5)) = .ok (.string ⟨([c0, 129, c1]).toArray⟩) (World.alloc (w.alloc (.cells #[.int .u8 (c0.toNat : Int), .int .u8 (c1.toNat : Int)] 5)) (.cells #[.int .u8 (c0.toNat : Int), .int .u8 129, .int .u8 (c1.toNat : Int)] 5)) := by
                have := conv_lit (w.alloc (.cells #[.int .u8 (c0.toNat : Int), .int .u8 (c1.toNat : Int)] 5)) #[.int .u8 (c0.toNat : Int), .int .u8 129, .int .u8 (c1.toNat : Int)] [c0, 129, c1] rfl (by simp [maxLen]) ⟨([c0, 129, c1]).toArray⟩ rfl
                first | exact this | (rw [World.size_alloc] at this; exact this)
              obtain ⟨yh, hyh⟩ : ∃ yh : ByteArray, yh = ⟨([c0, 129, c1]).toArray⟩ := ⟨_, rfl⟩
              have hyhs : yh.size = 3 := by rw [hyh]; rfl
              rw [← hyh] at hcv
              have hb9 : Below w.heap.size w (World.alloc (w.alloc (.cells #[.int .u8 (c0.toNat : Int), .int .u8 (c1.toNat : Int)] 5)) (.cells #[.int .u8 (c0.toNat : Int), .int .u8 129, .int .u8 (c1.toNat : Int)] 5)) := hb0.alloc (by omega) _
              go_upto_region 19 with fail
              obtain ⟨W9, hW9⟩ : ∃ W, W = World.alloc (w.alloc (.cells #[.int .u8 (c0.toNat : Int), .int .u8 (c1.toNat : Int)] 5)) (.cells #[.int .u8 (c0.toNat : Int), .int .u8 129, .int .u8 (c1.toNat : Int)] 5) := ⟨_, rfl⟩
              rw [← hW9] at hcv hb9 ⊢
              have hbs : ¬ 9223372036854775807 < yh.size + y.size := by omega
              obtain ⟨z, hz⟩ : ∃ z : ByteArray, z = yh ++ y := ⟨_, rfl⟩
              have hz2 : yh ++ y = z := hz.symm
              have HZ := hide (show z = ⟨(([c0, 129, c1]) ++ xs.flatten).toArray⟩ by rw [hz, hyh, HY.out]; exact ba_app _ _)
              have HB9 := hide hb9
              clear hW9 hz hyh hyhs hb9 hb0
              go_wp2_with fail
              go_ret2
              refine ⟨?_, HB9.out⟩
              rw [HR2.out, wrapR, HZ.out]
              simp only [wrapW, HM.out, HL.out, HC0.out]
              rfl
            · obtain ⟨q8, hq8⟩ : ∃ q8, m / 256 = q8 := ⟨_, rfl⟩
              have um2 := u8_of q8
              rw [show (q8 : Int) = (m : Int) / 256 by omega] at um2
              obtain ⟨c2, hc2⟩ : ∃ c2, UInt8.ofNat q8 = c2 := ⟨_, rfl⟩
              rw [hc2] at um2
              have h1i : (128 : Int) ≤ (m : Int) := by omega
              have h2i : (256 : Int) ≤ (m : Int) := by omega
              by_cases h3 : m < 65536
              · have HL := hide (show lenB m = [130, c2, c1] by rw [lenB, if_neg h1, if_neg h2, if_pos h3, hc1, hq8, hc2])
                have h3i : ¬ (65536 : Int) ≤ (m : Int) := by omega
                clear hc1 hc2 hq8 hbig h1 h2 h3
                have hcv : (convert 56 9 (.slice (some ⟨(w.heap.size + 1), 0, none⟩) 4 4)).run Tryd.prog (World.alloc (w.alloc (.cells #[.int .u8 (c0.toNat : Int), .int .u8 (c1.toNat : Int)] 5)) (.cells #[.int .u8 (c0.toNat : Int), .int .u8 130, .int .u8 (c2.toNat : Int), .int .u8 (c1.toNat : Int)] 5)) = .ok (.string ⟨([c0, 130, c2, c1]).toArray⟩) (World.alloc (w.alloc (.cells #[.int .u8 (c0.toNat : Int), .int .u8 (c1.toNat : Int)] 5)) (.cells #[.int .u8 (c0.toNat : Int), .int .u8 130, .int .u8 (c2.toNat : Int), .int .u8 (c1.toNat : Int)] 5)) := by
                  have := conv_lit (w.alloc (.cells #[.int .u8 (c0.toNat : Int), .int .u8 (c1.toNat : Int)] 5)) #[.int .u8 (c0.toNat : Int), .int .u8 130, .int .u8 (c2.toNat : Int), .int .u8 (c1.toNat : Int)] [c0, 130, c2, c1] rfl (by simp [maxLen]) ⟨([c0, 130, c2, c1]).toArray⟩ rfl
                  first | exact this | (rw [World.size_alloc] at this; exact this)
                obtain ⟨yh, hyh⟩ : ∃ yh : ByteArray, yh = ⟨([c0, 130, c2, c1]).toArray⟩ := ⟨_, rfl⟩
                have hyhs : yh.size = 4 := by rw [hyh]; rfl
                rw [← hyh] at hcv
                have hb9 : Below w.heap.size w (World.alloc (w.alloc (.cells #[.int .u8 (c0.toNat : Int), .int .u8 (c1.toNat : Int)] 5)) (.cells #[.int .u8 (c0.toNat : Int), .int .u8 130, .int .u8 (c2.toNat : Int), .int .u8 (c1.toNat : Int)] 5)) := hb0.alloc (by omega) _
                go_upto_region 19 with fail
                obtain ⟨W9, hW9⟩ : ∃ W, W = World.alloc (w.alloc (.cells #[.int .u8 (c0.toNat : Int), .int .u8 (c1.toNat : Int)] 5)) (.cells #[.int .u8 (c0.toNat : Int), .int .u8 130, .int .u8 (c2.toNat : Int), .int .u8 (c1.toNat : Int)] 5) := ⟨_, rfl⟩
                rw [← hW9] at hcv hb9 ⊢
                have hbs : ¬ 9223372036854775807 < yh.size + y.size := by omega
                obtain ⟨z, hz⟩ : ∃ z : ByteArray, z = yh ++ y := ⟨_, rfl⟩
                have hz2 : yh ++ y = z := hz.symm
                have HZ := hide (show z = ⟨(([c0, 130, c2, c1]) ++ xs.flatten).toArray⟩ by rw [hz, hyh, HY.out]; exact ba_app _ _)
                have HB9 := hide hb9
                clear hW9 hz hyh hyhs hb9 hb0
                go_wp2_with fail
                go_ret2
                refine ⟨?_, HB9.out⟩
                rw [HR2.out, wrapR, HZ.out]
                simp only [wrapW, HM.out, HL.out, HC0.out]
                rfl
              · obtain ⟨q16, hq16⟩ : ∃ q16, m / 65536 = q16 := ⟨_, rfl⟩
                have um3 := u8_of q16
                rw [show (q16 : Int) = (m : Int) / 65536 by omega] at um3
                obtain ⟨c3, hc3⟩ : ∃ c3, UInt8.ofNat q16 = c3 := ⟨_, rfl⟩
                rw [hc3] at um3
                have HL := hide (show lenB m = [131, c3, c2, c1] by rw [lenB, if_neg h1, if_neg h2, if_neg h3, hc1, hq8, hq16, hc2, hc3])
                have h3i : (65536 : Int) ≤ (m : Int) := by omega
                clear hc1 hc2 hc3 hq8 hq16 hbig h1 h2 h3
                have hcv : (convert 56 9 (.slice (some ⟨(w.heap.size + 1), 0, none⟩) 5 5)).run Tryd.prog (World.alloc (w.alloc (.cells #[.int .u8 (c0.toNat : Int), .int .u8 (c1.toNat : Int)] 5)) (.cells #[.int .u8 (c0.toNat : Int), .int .u8 131, .int .u8 (c3.toNat : Int), .int .u8 (c2.toNat : Int), .int .u8 (c1.toNat : Int)] 5)) = .ok (.string ⟨([c0, 131, c3, c2, c1]).toArray⟩) (World.alloc (w.alloc (.cells #[.int .u8 (c0.toNat : Int), .int .u8 (c1.toNat : Int)] 5)) (.cells #[.int .u8 (c0.toNat : Int), .int .u8 131, .int .u8 (c3.toNat : Int), .int .u8 (c2.toNat : Int), .int .u8 (c1.toNat : Int)] 5)) := by
                  have := conv_lit (w.alloc (.cells #[.int .u8 (c0.toNat : Int), .int .u8 (c1.toNat : Int)] 5)) #[.int .u8 (c0.toNat : Int), .int .u8 131, .int .u8 (c3.toNat : Int), .int .u8 (c2.toNat : Int), .int .u8 (c1.toNat : Int)] [c0, 131, c3, c2, c1] rfl (by simp [maxLen]) ⟨([c0, 131, c3, c2, c1]).toArray⟩ rfl
                  first | exact this | (rw [World.size_alloc] at this; exact this)
                obtain ⟨yh, hyh⟩ : ∃ yh : ByteArray, yh = ⟨([c0, 131, c3, c2, c1]).toArray⟩ := ⟨_, rfl⟩
                have hyhs : yh.size = 5 := by rw [hyh]; rfl
                rw [← hyh] at hcv
                have hb9 : Below w.heap.size w (World.alloc (w.alloc (.cells #[.int .u8 (c0.toNat : Int), .int .u8 (c1.toNat : Int)] 5)) (.cells #[.int .u8 (c0.toNat : Int), .int .u8 131, .int .u8 (c3.toNat : Int), .int .u8 (c2.toNat : Int), .int .u8 (c1.toNat : Int)] 5)) := hb0.alloc (by omega) _
                go_upto_region 19 with fail
                obtain ⟨W9, hW9⟩ : ∃ W, W = World.alloc (w.alloc (.cells #[.int .u8 (c0.toNat : Int), .int .u8 (c1.toNat : Int)] 5)) (.cells #[.int .u8 (c0.toNat : Int), .int .u8 131, .int .u8 (c3.toNat : Int), .int .u8 (c2.toNat : Int), .int .u8 (c1.toNat : Int)] 5) := ⟨_, rfl⟩
                rw [← hW9] at hcv hb9 ⊢
                have hbs : ¬ 9223372036854775807 < yh.size + y.size := by omega
                obtain ⟨z, hz⟩ : ∃ z : ByteArray, z = yh ++ y := ⟨_, rfl⟩
                have hz2 : yh ++ y = z := hz.symm
                have HZ := hide (show z = ⟨(([c0, 131, c3, c2, c1]) ++ xs.flatten).toArray⟩ by rw [hz, hyh, HY.out]; exact ba_app _ _)
                have HB9 := hide hb9
                clear hW9 hz hyh hyhs hb9 hb0
                go_wp2_with fail
                go_ret2
                refine ⟨?_, HB9.out⟩
                rw [HR2.out, wrapR, HZ.out]
                simp only [wrapW, HM.out, HL.out, HC0.out]
                rfl
end Go.Proofs.YtbafpgdmnkkclaaDoor
