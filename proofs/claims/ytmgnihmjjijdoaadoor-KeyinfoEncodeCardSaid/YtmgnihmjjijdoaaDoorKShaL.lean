/- The program's hash: the sum of a stream of 33 bytes. -/
import Derived.Test.YtmgnihmjjijdoaaDoorKShaI
import Derived.Test.YtmgnihmjjijdoaaDoorKShaJ
namespace Go.Proofs.YtmgnihmjjijdoaaDoor
open Go.RowKit
theorem tail33 : ([128] ++ List.replicate 22 0 ++ [0, 0, 0, 0, 0, 0, 1, 8] : List UInt8) = tailS 33 8 := by decide +kernel
def lenV : Value → Nat
 | .slice _ n _ => n
 | _ => 0
def lens : List UInt8 := [0, 0, 0, 0, 0, 0, 1, 8]
theorem StB.drew {g : Nat} {s : S8} {v : Value} {n : Int} {W : World} (h : StB g s v n W) : StB g s v n W.drew := h
theorem HV.drew {g : Nat} {s : S8} {W : World} (h : HV g s W) : HV g s W.drew := h
theorem replicate_snoc (k : Nat) : List.replicate k (0 : UInt8) ++ [0] = List.replicate (k + 1) 0 := by
 rw [List.replicate_succ']
structure SumJ (w w0 : World) (gH : Nat) (s r : S8) (A : Option Addr) (c : Nat) (dd : Nat → Bool) (val : Nat → Value) (W : World) : Prop where
 b : Below w.heap.size w W
 e : dd 3 = false → W = w0.drew
 h : dd 4 = false → HV gH s W
 h2 : dd 4 = true → HV gH r W
 l : dd 0 = true → val 62 = s.val
 m : dd 1 = true → val 63 = .slice A 64 c
 sl : dd 2 = true → val 64 = .slice A 64 c
 c : dd 3 = true → val 65 = r.val
 q4 : dd 4 = true → dd 3 = true
 q3 : dd 3 = true → dd 0 = true
set_option maxRecDepth 100000 in
set_option maxHeartbeats 16000000 in
theorem SSum_any (L : List UInt8) (hL : L.length = 33) (g : Nat) (v : Value) (w : World) (h : StB g initS v 33 w) (hsl : Sl RByte 1 w (Lt w.heap.size) L [v]) :
    Calls Tryd.prog 51 #[.pointer (some ⟨g, 0, none⟩)] w fun e w' => e = .returned (.string ⟨(sum1 L).toArray⟩) ∧ Below w.heap.size w w' := by
  obtain ⟨A, c, hv⟩ := hsl.shape
  subst hv
  have H := hide h
  have HSL := hide hsl
  have HLL := hide hL
  have hgw := h.lt
  obtain ⟨M, hM⟩ : ∃ M, L ++ tailS 33 8 = M := ⟨_, rfl⟩
  have HO := hide (show (⟨(sum1 L).toArray⟩ : ByteArray) = ⟨((blockS M initS).list.flatMap w4).toArray⟩ by rw [sum1, hL, hM])
  have HM := hide (show M = L ++ [128] ++ List.replicate 22 0 ++ lens by rw [← hM, ← tail33]; simp [lens])
  have hMl : M.length = 64 := by rw [← hM, List.length_append, tailS_len, hL]
  rw [HO.out]
  clear h hsl hL hM
  go_enter Tryd.func51, Tryd.ntmps51
  go_wp2_with fail
  refine (initial_any _).mono ?_
  rintro e w1 ⟨rfl, hb1⟩
  have H1 := hide (H.out.below hb1)
  obtain ⟨W2, hW2⟩ : ∃ W, W = w1.alloc (.cells initS.arr 96) := ⟨_, rfl⟩
  have hb2 : Below w1.heap.size w1 W2 := by rw [hW2]; exact (Below.refl _ _).alloc (Nat.le_refl _) _
  have hv2 : HV w1.heap.size initS W2 := by rw [hW2]; exact HV.new w1 initS
  have HB2 := hide (hb1.trans (hb2.mono hb1.size))
  have H2 := hide (H1.out.below hb2)
  have HSL2 := hide ((Sl.ok RByte.ok).below HSL.out HB2.out)
  have hwH : w.heap.size ≤ w1.heap.size := hb1.size
  obtain ⟨gH, hgH⟩ : ∃ g, w1.heap.size = g := ⟨_, rfl⟩
  rw [hgH] at hv2 hwH
  have HV2 := hide hv2
  rw [show initS.val = .agg #[.int .u32 (W32 initS.a), .int .u32 (W32 initS.b), .int .u32 (W32 initS.c), .int .u32 (W32 initS.d), .int .u32 (W32 initS.e), .int .u32 (W32 initS.f), .int .u32 (W32 initS.g), .int .u32 (W32 initS.h)] from rfl]
  clear hb1 hb2 hv2
  go_upto_region 2 with fail
  change Code.wp _ _ _ _ (w1.alloc (.cells initS.arr 96))
  rw [← hW2]
  try rw [hgH]
  clear hW2 hgH
  obtain ⟨c8, c9⟩ := H2.out.rest
  go_upto_region 5 with fail
  clear c8
  obtain ⟨x0, x1, x2, x3, x4, x5, x6, x7⟩ := H2.out.words
  have f0 := HV2.out.frozen 0
  have f1 := HV2.out.frozen 1
  have f2 := HV2.out.frozen 2
  have f3 := HV2.out.frozen 3
  have f4 := HV2.out.frozen 4
  have f5 := HV2.out.frozen 5
  have f6 := HV2.out.frozen 6
  have f7 := HV2.out.frozen 7
  obtain ⟨y0, y1, y2, y3, y4, y5, y6, y7⟩ := HV2.out.facts
  go_region
  all_goals
    obtain ⟨W3, hW3⟩ : ∃ W, W = (set8 W2 gH initS).drew := ⟨_, rfl⟩
    have HV3 := hide (show HV gH initS W3 by rw [hW3]; exact (set8_self initS HV2.out).drew)
    have HB3 := hide (show Below w.heap.size w W3 by rw [hW3]; exact (set8_below initS HB2.out hwH).drew)
    have H3 := hide (show StB g initS (.slice A L.length c) 33 W3 by rw [hW3]; exact (H2.out.at_ (set8_other initS (by omega))).drew)
    have HSL3 := hide ((Sl.ok RByte.ok).below HSL.out HB3.out)
    unfold set8 at hW3
    rw [← hW3]
    clear hW3 x0 x1 x2 x3 x4 x5 x6 x7 y0 y1 y2 y3 y4 y5 y6 y7 f0 f1 f2 f3 f4 f5 f6 f7 c9
    obtain ⟨c8, -⟩ := H3.out.rest
    obtain ⟨base, hbase⟩ : ∃ b, b = W3.heap.size := ⟨_, rfl⟩
    have hgb : gH < base := by rw [hbase]; exact HV3.out.lt
    have hbs : base ≤ W3.heap.size := by omega
    have hwb : w.heap.size ≤ base := by omega
    have hLs1 : L.length < 34 := by have := HLL.out; omega
    have hLs2 : 32 < L.length := by have := HLL.out; omega
    clear hbase
    go_upto_region 8 with (first
      | (at_builtin; refine wpList_copy RByte.ok _ rfl (.tmp 28) (.tmp 32) 43 rfl base 5 (.int .u8 0) 1 Tryd.underlying43 info_u8o rfl (by decide) (Lt W3.heap.size) No (fun _ _ h => h) rfl A c L rfl HSL3.out (no_lt _) (by omega) (by omega) ?_; intro v4 wd hown4 hb4 hat4; obtain ⟨A4, c4, hv4⟩ := (hown4.sl RByte.ok).shape; subst hv4; have hw4 := hb4.size)
      | (at_builtin; refine wpList_app RByte.ok _ rfl (.tmp 34) (.tmp 35) 43 rfl base 5 (.int .u8 0) 1 Tryd.underlying43 info_u8o rfl (by decide) No _ L rfl (hown4.alloc RByte.ok (no_lt _) _) ⟨_, 0, none⟩ 1 1 [128] rfl rfl (news_bytes _ _ _ _ [128] (by rfl)) (no_lt _) (by simp; omega) (by simp [maxLen]; omega) (by simp; omega) ?_; intro v5 w5 hown5 hg5 hb5 hat5; have hw5 := hb5.size; simp at hw5)
      | fail)
    have HB5 := hide (show Below base W3 w5 from ((hb4.mono hbs).alloc (by omega) _).trans hb5)
    have HOWN5 := hide hown5
    clear hb4 hb5 hat4 hat5 hg5 hown4 hown5 c8
    go_loopw [4] (fun v wr => ∃ (k : Nat) (out : List UInt8), k ≤ 22 ∧ Hid (out = L ++ [128] ++ List.replicate k 0) ∧ out.length = 34 + k ∧ Own RByte 1 5 wr base No v out ∧ Below base W3 wr) (fun v _ => 56 - lenV v)
    case atStart => exact ⟨0, _, by omega, hide (by simp), by simp; omega, HOWN5.out, HB5.out⟩
    case round =>
      obtain ⟨k, out, hk, HOUT, hol, hown, hb⟩ := hrel
      have hgs : base ≤ wr.heap.size := by have := hb.size; omega
      obtain ⟨A9, cp, hv⟩ := (hown.sl RByte.ok).shape
      subst hv
      by_cases hlt : k < 22
      · have tm : (out.length : Int).tmod 64 = (out.length : Int) := by rw [Int.tmod_eq_emod_of_nonneg (by omega)]; omega
        have tn : ((out.length : Int) != 56) = true := by simp; omega
        have tn2 : ((out.length : Int) == 56) = false := by simp; omega
        have HE := hide (show out ++ [0] = L ++ [128] ++ List.replicate (k + 1) 0 by rw [HOUT.out, List.append_assoc, replicate_snoc])
        have HOL := hide hol
        clear HOUT
        go_wp2_with (at_builtin; refine wpList_app RByte.ok _ rfl (.tmp 41) (.tmp 42) 43 rfl base 5 (.int .u8 0) 1 Tryd.underlying43 info_u8o rfl (by decide) No _ out rfl (hown.alloc RByte.ok (no_lt _) _) ⟨_, 0, none⟩ 1 1 [0] rfl rfl (news_bytes _ _ _ _ [0] (by rfl)) (no_lt _) (by simp; omega) (by simp [maxLen]; omega) (by simp; omega) ?_; intro v7 w7 hown7 hg7 hb7 hat7; have hsz7 := hb7.size; simp at hsz7)
        obtain ⟨A7, c7, hv7⟩ := (hown7.sl RByte.ok).shape
        subst hv7
        go_roundw
        case rel => exact ⟨k + 1, out ++ [0], by omega, HE, by simp; omega, hown7, (hb.alloc (by omega) _).trans hb7⟩
        case measure => simp [lenV]; omega
      · have hk22 : k = 22 := by omega
        have tm : (out.length : Int).tmod 64 = (out.length : Int) := by rw [Int.tmod_eq_emod_of_nonneg (by omega)]; omega
        have tn : ((out.length : Int) != 56) = false := by simp; omega
        have tn2 : ((out.length : Int) == 56) = true := by simp; omega
        have HM1 := hide (show M = out ++ lens.drop 0 by rw [HM.out, HOUT.out, hk22]; simp)
        have hol56 : out.length = 56 + 0 := by omega
        obtain ⟨wq, rfl⟩ : ∃ wq : World, wq = wr := ⟨_, rfl⟩
        have HOWN := hide hown
        have HB := hide hb
        have HOL := hide hol56
        clear HOUT hol hol56 hk22 hown hb hk hlt
        go_upto_region 11 with fail
        clear tm tn tn2
        go_loopw [4, 6] (fun v i wr => ∃ (k : Nat) (out : List UInt8), k ≤ 8 ∧ out.length = 56 + k ∧ i = .int .i64 (7 - (k : Int)) ∧ Own RByte 1 5 wr base No v out ∧ Below base W3 wr ∧ Hid (M = out ++ lens.drop k)) (fun _ i _ => (intOf i + 1).toNat)
        case atStart => exact ⟨0, out, by omega, HOL.out, rfl, HOWN.out, HB.out, HM1⟩
        case round =>
          clear HOWN HB HOL HM1
          obtain ⟨k, out, hk, hol, rfl, hown, hb, HM2⟩ := hrel
          have hgs : base ≤ wr.heap.size := by have := hb.size; omega
          obtain ⟨A9, cp, hv⟩ := (hown.sl RByte.ok).shape
          subst hv
          match k, hk with
          | 0, _ =>
            rw [show (7 : Int) - ((0 : Nat) : Int) = 7 from rfl]
            go_wp2_with (at_builtin; refine wpList_app RByte.ok _ rfl (.tmp 48) (.tmp 57) 43 rfl base 5 (.int .u8 0) 1 Tryd.underlying43 info_u8o rfl (by decide) No _ out rfl (hown.alloc RByte.ok (no_lt _) _) ⟨_, 0, none⟩ 1 1 [0] rfl rfl (news_bytes _ _ _ _ [0] (by first | rfl | simp)) (no_lt _) (by simp; omega) (by simp [maxLen]; omega) (by simp; omega) ?_; intro v7 w7 hown7 hg7 hb7 hat7; have hsz7 := hb7.size; simp at hsz7)
            go_roundw
            case rel => exact ⟨0 + 1, out ++ [0], by omega, by simp; omega, by rfl, hown7, (hb.alloc (by omega) _).trans hb7, hide (by rw [HM2.out]; simp [lens])⟩
            case measure => simp [intOf]
          | 1, _ =>
            rw [show (7 : Int) - ((1 : Nat) : Int) = 6 from rfl]
            go_wp2_with (at_builtin; refine wpList_app RByte.ok _ rfl (.tmp 48) (.tmp 57) 43 rfl base 5 (.int .u8 0) 1 Tryd.underlying43 info_u8o rfl (by decide) No _ out rfl (hown.alloc RByte.ok (no_lt _) _) ⟨_, 0, none⟩ 1 1 [0] rfl rfl (news_bytes _ _ _ _ [0] (by first | rfl | simp)) (no_lt _) (by simp; omega) (by simp [maxLen]; omega) (by simp; omega) ?_; intro v7 w7 hown7 hg7 hb7 hat7; have hsz7 := hb7.size; simp at hsz7)
            go_roundw
            case rel => exact ⟨1 + 1, out ++ [0], by omega, by simp; omega, by rfl, hown7, (hb.alloc (by omega) _).trans hb7, hide (by rw [HM2.out]; simp [lens])⟩
            case measure => simp [intOf]
          | 2, _ =>
            rw [show (7 : Int) - ((2 : Nat) : Int) = 5 from rfl]
            go_wp2_with (at_builtin; refine wpList_app RByte.ok _ rfl (.tmp 48) (.tmp 57) 43 rfl base 5 (.int .u8 0) 1 Tryd.underlying43 info_u8o rfl (by decide) No _ out rfl (hown.alloc RByte.ok (no_lt _) _) ⟨_, 0, none⟩ 1 1 [0] rfl rfl (news_bytes _ _ _ _ [0] (by first | rfl | simp)) (no_lt _) (by simp; omega) (by simp [maxLen]; omega) (by simp; omega) ?_; intro v7 w7 hown7 hg7 hb7 hat7; have hsz7 := hb7.size; simp at hsz7)
            go_roundw
            case rel => exact ⟨2 + 1, out ++ [0], by omega, by simp; omega, by rfl, hown7, (hb.alloc (by omega) _).trans hb7, hide (by rw [HM2.out]; simp [lens])⟩
            case measure => simp [intOf]
          | 3, _ =>
            rw [show (7 : Int) - ((3 : Nat) : Int) = 4 from rfl]
            go_wp2_with (at_builtin; refine wpList_app RByte.ok _ rfl (.tmp 48) (.tmp 57) 43 rfl base 5 (.int .u8 0) 1 Tryd.underlying43 info_u8o rfl (by decide) No _ out rfl (hown.alloc RByte.ok (no_lt _) _) ⟨_, 0, none⟩ 1 1 [0] rfl rfl (news_bytes _ _ _ _ [0] (by first | rfl | simp)) (no_lt _) (by simp; omega) (by simp [maxLen]; omega) (by simp; omega) ?_; intro v7 w7 hown7 hg7 hb7 hat7; have hsz7 := hb7.size; simp at hsz7)
            go_roundw
            case rel => exact ⟨3 + 1, out ++ [0], by omega, by simp; omega, by rfl, hown7, (hb.alloc (by omega) _).trans hb7, hide (by rw [HM2.out]; simp [lens])⟩
            case measure => simp [intOf]
          | 4, _ =>
            rw [show (7 : Int) - ((4 : Nat) : Int) = 3 from rfl]
            go_wp2_with (at_builtin; refine wpList_app RByte.ok _ rfl (.tmp 48) (.tmp 57) 43 rfl base 5 (.int .u8 0) 1 Tryd.underlying43 info_u8o rfl (by decide) No _ out rfl (hown.alloc RByte.ok (no_lt _) _) ⟨_, 0, none⟩ 1 1 [0] rfl rfl (news_bytes _ _ _ _ [0] (by first | rfl | simp)) (no_lt _) (by simp; omega) (by simp [maxLen]; omega) (by simp; omega) ?_; intro v7 w7 hown7 hg7 hb7 hat7; have hsz7 := hb7.size; simp at hsz7)
            go_roundw
            case rel => exact ⟨4 + 1, out ++ [0], by omega, by simp; omega, by rfl, hown7, (hb.alloc (by omega) _).trans hb7, hide (by rw [HM2.out]; simp [lens])⟩
            case measure => simp [intOf]
          | 5, _ =>
            rw [show (7 : Int) - ((5 : Nat) : Int) = 2 from rfl]
            go_wp2_with (at_builtin; refine wpList_app RByte.ok _ rfl (.tmp 48) (.tmp 57) 43 rfl base 5 (.int .u8 0) 1 Tryd.underlying43 info_u8o rfl (by decide) No _ out rfl (hown.alloc RByte.ok (no_lt _) _) ⟨_, 0, none⟩ 1 1 [0] rfl rfl (news_bytes _ _ _ _ [0] (by first | rfl | simp)) (no_lt _) (by simp; omega) (by simp [maxLen]; omega) (by simp; omega) ?_; intro v7 w7 hown7 hg7 hb7 hat7; have hsz7 := hb7.size; simp at hsz7)
            go_roundw
            case rel => exact ⟨5 + 1, out ++ [0], by omega, by simp; omega, by rfl, hown7, (hb.alloc (by omega) _).trans hb7, hide (by rw [HM2.out]; simp [lens])⟩
            case measure => simp [intOf]
          | 6, _ =>
            rw [show (7 : Int) - ((6 : Nat) : Int) = 1 from rfl]
            go_wp2_with (at_builtin; refine wpList_app RByte.ok _ rfl (.tmp 48) (.tmp 57) 43 rfl base 5 (.int .u8 0) 1 Tryd.underlying43 info_u8o rfl (by decide) No _ out rfl (hown.alloc RByte.ok (no_lt _) _) ⟨_, 0, none⟩ 1 1 [1] rfl rfl (news_bytes _ _ _ _ [1] (by first | rfl | simp)) (no_lt _) (by simp; omega) (by simp [maxLen]; omega) (by simp; omega) ?_; intro v7 w7 hown7 hg7 hb7 hat7; have hsz7 := hb7.size; simp at hsz7)
            go_roundw
            case rel => exact ⟨6 + 1, out ++ [1], by omega, by simp; omega, by rfl, hown7, (hb.alloc (by omega) _).trans hb7, hide (by rw [HM2.out]; simp [lens])⟩
            case measure => simp [intOf]
          | 7, _ =>
            rw [show (7 : Int) - ((7 : Nat) : Int) = 0 from rfl]
            go_wp2_with (at_builtin; refine wpList_app RByte.ok _ rfl (.tmp 48) (.tmp 57) 43 rfl base 5 (.int .u8 0) 1 Tryd.underlying43 info_u8o rfl (by decide) No _ out rfl (hown.alloc RByte.ok (no_lt _) _) ⟨_, 0, none⟩ 1 1 [8] rfl rfl (news_bytes _ _ _ _ [8] (by first | rfl | simp)) (no_lt _) (by simp; omega) (by simp [maxLen]; omega) (by simp; omega) ?_; intro v7 w7 hown7 hg7 hb7 hat7; have hsz7 := hb7.size; simp at hsz7)
            go_roundw
            case rel => exact ⟨7 + 1, out ++ [8], by omega, by simp; omega, by rfl, hown7, (hb.alloc (by omega) _).trans hb7, hide (by rw [HM2.out]; simp [lens])⟩
            case measure => simp [intOf]
          | 8, _ =>
            rw [show (7 : Int) - ((8 : Nat) : Int) = -1 from rfl]
            have hMo : out = M := by rw [HM2.out]; simp [lens]
            have h64 : out.length = 64 := by omega
            have hslo := hown.sl RByte.ok
            rw [h64] at hslo ⊢
            rw [hMo] at hslo
            have hsM : Sl RByte 1 wr (Lt wr.heap.size) M [.slice A9 64 cp] := (Sl.ok RByte.ok).mono hslo (fun _ _ => rfl) (fun j hj => by rcases hj with hj | hj; exact hj.elim; exact hj.2)
            obtain ⟨-, hcp, -⟩ := hsM.len_
            have hcp2 : (64 : Int) ≤ (cp : Int) := by omega
            obtain ⟨wq, rfl⟩ : ∃ wq : World, wq = wr := ⟨_, rfl⟩
            have HSM := hide hsM
            have HBW := hide (show Below w.heap.size w wq from HB3.out.trans (hb.mono hwb))
            have HVQ := hide (show HV gH initS wq from HV3.out.keep (hb.block gH hgb))
            obtain ⟨RR, hRR⟩ : ∃ R, blockS M initS = R := ⟨_, rfl⟩
            have BK := hide (show ∀ W, Sl RByte 1 W (Lt W.heap.size) M [.slice A9 64 cp] → Calls Tryd.prog 61 #[initS.val, .slice A9 64 cp] W fun e w' => e = .returned RR.val ∧ Below W.heap.size W w' from fun W h => hRR ▸ block_any initS A9 cp M hMl W h)
            have HRR := hide hRR
            clear hMo h64 hslo hsM hown hb hol HM2 hk hRR
            go_wp2_with fail
            go_loopw [4] (fun v wr => Below w.heap.size w wr ∧ ((v = .slice A9 64 cp ∧ wr = wq) ∨ (∃ A c, v = .slice A 0 c ∧ HV gH RR wr))) (fun v _ => lenV v)
            case atStart => exact ⟨HBW.out, .inl ⟨rfl, rfl⟩⟩
            case round =>
              obtain ⟨hbw, ⟨rfl, rfl⟩ | ⟨A, c, rfl, hvr⟩⟩ := hrel
              · clear hbw
                have hcell := HVQ.out.facts
                go_upto_region 15 with fail
                refine region_inv [62, 63, 64, 65] (SumJ w _ gH initS RR A9 cp) (by kernel_rfl) (by kernel_rfl) (fun val => ⟨HBW.out.drew, fun _ => rfl, fun _ => HVQ.out.drew, nofun, nofun, nofun, nofun, nofun, nofun, nofun⟩) ⟨?_, ?_, ?_, ?_, ?_, trivial⟩ ?_
                · refine ⟨fun s hs => by cases hs <;> decide, ?_⟩
                  rintro dd val W hJ hd hdep K hK
                  rw [if_pos (by rfl)]
                  dsimp only [putF, List.foldl, Act.put] at hK ⊢
                  simp only [List.setIfInBounds_toArray, List.set_cons_zero, List.set_cons_succ] at hK ⊢
                  have h4 : dd 4 = false := by
                    cases h : dd 4
                    · rfl
                    · rw [hJ.q3 (hJ.q4 h)] at hd; cases hd
                  obtain ⟨x0, x1, x2, x3, x4, x5, x6, x7⟩ := (hJ.h h4).facts
                  go_simp
                  exact hK.out _ _ { b := hJ.b, e := hJ.e, h := hJ.h, h2 := hJ.h2, l := fun _ => rfl, m := hJ.m, sl := hJ.sl, c := hJ.c, q4 := hJ.q4, q3 := fun _ => rfl }
                · refine ⟨fun s hs => by cases hs <;> decide, ?_⟩
                  rintro dd val W hJ hd hdep K hK
                  rw [if_pos (by rfl)]
                  dsimp only [putF, List.foldl, Act.put] at hK ⊢
                  simp only [List.setIfInBounds_toArray, List.set_cons_zero, List.set_cons_succ] at hK ⊢
                  go_simp
                  exact hK.out _ _ { b := hJ.b, e := hJ.e, h := hJ.h, h2 := hJ.h2, l := hJ.l, m := fun _ => rfl, sl := hJ.sl, c := hJ.c, q4 := hJ.q4, q3 := hJ.q3 }
                · refine ⟨fun s hs => by cases hs <;> decide, ?_⟩
                  rintro dd val W hJ hd hdep K hK
                  rw [if_pos (by rfl)]
                  dsimp only [putF, List.foldl, Act.put] at hK ⊢
                  simp only [List.setIfInBounds_toArray, List.set_cons_zero, List.set_cons_succ] at hK ⊢
                  have e63 := hJ.m (hdep ⟨1, .data⟩ (by simp) rfl)
                  simp only [e63] at hK ⊢
                  go_simp
                  exact hK.out _ _ { b := hJ.b, e := hJ.e, h := hJ.h, h2 := hJ.h2, l := hJ.l, m := hJ.m, sl := fun _ => rfl, c := hJ.c, q4 := hJ.q4, q3 := hJ.q3 }
                · refine ⟨fun s hs => by cases hs <;> decide, ?_⟩
                  rintro dd val W hJ hd hdep K hK
                  rw [if_pos (by rfl)]
                  dsimp only [putF, List.foldl, Act.put] at hK ⊢
                  simp only [List.setIfInBounds_toArray, List.set_cons_zero, List.set_cons_succ] at hK ⊢
                  have D0 := hdep ⟨0, .data⟩ (by simp) rfl
                  have e62 := hJ.l D0
                  have e64 := hJ.sl (hdep ⟨2, .data⟩ (by simp) rfl)
                  have h4 : dd 4 = false := by
                    cases h : dd 4
                    · rfl
                    · rw [hJ.q4 h] at hd; cases hd
                  have hv := hJ.h h4
                  have hsW : Sl RByte 1 W (Lt W.heap.size) M [.slice A9 64 cp] := by rw [hJ.e hd]; exact (Sl.ok RByte.ok).mono HSM.out (fun _ _ => rfl) (fun _ h => h)
                  simp only [e62, e64] at hK ⊢
                  go_simp
                  refine (BK.out W hsW).mono ?_
                  rintro e w7 ⟨rfl, hb7⟩
                  go_wp2_with fail
                  exact hK.out _ _ { b := hJ.b.trans (hb7.mono hJ.b.size), e := nofun, h := fun _ => hv.below hb7, h2 := fun h => (by rw [show dd 4 = true from h] at h4; cases h4), l := hJ.l, m := hJ.m, sl := hJ.sl, c := fun _ => rfl, q4 := fun _ => rfl, q3 := fun _ => D0 }
                · refine ⟨fun s hs => by cases hs <;> decide, ?_⟩
                  rintro dd val W hJ hd hdep K hK
                  rw [if_pos (by rfl)]
                  dsimp only [putF, List.foldl, Act.put] at hK ⊢
                  simp only [List.setIfInBounds_toArray, List.set_cons_zero, List.set_cons_succ] at hK ⊢
                  have D3 := hdep ⟨3, .data⟩ (by simp) rfl
                  have e65 := hJ.c D3
                  have hv := hJ.h hd
                  have f0 := hv.frozen 0
                  have f1 := hv.frozen 1
                  have f2 := hv.frozen 2
                  have f3 := hv.frozen 3
                  have f4 := hv.frozen 4
                  have f5 := hv.frozen 5
                  have f6 := hv.frozen 6
                  have f7 := hv.frozen 7
                  obtain ⟨y0, y1, y2, y3, y4, y5, y6, y7⟩ := hv.facts
                  have hs8 := set8_self RR hv
                  have hb8 := set8_below RR hJ.b hwH
                  unfold set8 at hs8 hb8
                  simp only [e65, S8.val] at hK ⊢
                  go_simp
                  exact hK.out (.bool true) _ { b := hb8, e := fun h => (by rw [show dd 3 = false from h] at D3; cases D3), h := nofun, h2 := fun _ => hs8, l := hJ.l, m := hJ.m, sl := hJ.sl, c := fun _ => e65, q4 := fun _ => D3, q3 := hJ.q3 }
                · rintro dd val W hall hJ
                  have e62 := hJ.l (hall 0 (by decide))
                  have e63 := hJ.m (hall 1 (by decide))
                  have e64 := hJ.sl (hall 2 (by decide))
                  have e65 := hJ.c (hall 3 (by decide))
                  have HVW := hide (hJ.h2 (hall 4 (by decide)))
                  have HBWW := hide hJ.b
                  dsimp only [putF, List.foldl, Act.put]
                  simp only [List.setIfInBounds_toArray, List.set_cons_zero, List.set_cons_succ]
                  simp only [e62, e63, e64, e65]
                  clear hJ hall e62 e63 e64 e65 hcell
                  go_wp2_with fail
                  all_goals
                    go_roundw
                    case rel => exact ⟨HBWW.out, .inr ⟨_, _, rfl, HVW.out⟩⟩
                    case measure => simp [lenV]
              · obtain ⟨wl, rfl⟩ : ∃ wq : World, wq = wr := ⟨_, rfl⟩
                have HBL := hide hbw
                obtain ⟨r0, r1, r2, r3, r4, r5, r6, r7⟩ := RR
                obtain ⟨x0, x1, x2, x3, x4, x5, x6, x7⟩ := hvr.facts
                obtain ⟨base, hbase, HBASE⟩ : ∃ base, base ≤ wl.heap.size ∧ Hid (base = wl.heap.size) := ⟨_, Nat.le_refl _, rfl⟩
                clear hbw hvr BK hcp hcp2
                go_wp2_with fail
                clear x0 x1 x2 x3 x4 x5 x6 x7
                go_loopw [7, 69] (fun v i wr => ∃ (k : Nat) (out : List UInt8), k ≤ 8 ∧ out.length ≤ 4 * k ∧ i = .int .i64 k ∧ Own RByte 1 5 wr base No v out ∧ Below base wl wr ∧ Hid ([r0, r1, r2, r3, r4, r5, r6, r7].flatMap w4 = out ++ ([r0, r1, r2, r3, r4, r5, r6, r7].drop k).flatMap w4)) (fun _ i _ => 8 - (intOf i).toNat)
                case atStart => exact ⟨0, [], by omega, by simp, rfl, Own.nil _ _ _ _ _ _, Below.refl _ _, hide rfl⟩
                case round =>
                  obtain ⟨k, out, hk, hol, rfl, hown, hb, H⟩ := hrel
                  have hgs : base ≤ wr.heap.size := by have := hb.size; omega
                  obtain ⟨A8, cp8, hv⟩ := (hown.sl RByte.ok).shape
                  subst hv
                  match k, hk with
                  | 0, _ =>
                    have hix : ∀ W, (Instr.index 96 (.agg #[.int .u32 (W32 r0), .int .u32 (W32 r1), .int .u32 (W32 r2), .int .u32 (W32 r3), .int .u32 (W32 r4), .int .u32 (W32 r5), .int .u32 (W32 r6), .int .u32 (W32 r7)]) (.int .i64 0)).run Tryd.prog W = .ok (.int .u32 (W32 r0)) W := fun W => by kernel_rfl
                    obtain ⟨c1, hc1⟩ : ∃ c, (r0 >>> 24).toUInt8 = c := ⟨_, rfl⟩
                    obtain ⟨c2, hc2⟩ : ∃ c, (r0 >>> 16).toUInt8 = c := ⟨_, rfl⟩
                    obtain ⟨c3, hc3⟩ : ∃ c, (r0 >>> 8).toUInt8 = c := ⟨_, rfl⟩
                    obtain ⟨c4, hc4⟩ : ∃ c, r0.toUInt8 = c := ⟨_, rfl⟩
                    have v1 : IntKind.u8.wrap (W32 r0 / (16777216 : Int)) = (c1.toNat : Int) := by rw [wsr24, w_u8, hc1]
                    have v2 : IntKind.u8.wrap (W32 r0 / (65536 : Int)) = (c2.toNat : Int) := by rw [wsr16, w_u8, hc2]
                    have v3 : IntKind.u8.wrap (W32 r0 / (256 : Int)) = (c3.toNat : Int) := by rw [wsr8, w_u8, hc3]
                    have v4 : IntKind.u8.wrap (W32 r0) = (c4.toNat : Int) := by rw [w_u8, hc4]
                    have HE := hide (show [r0, r1, r2, r3, r4, r5, r6, r7].flatMap w4 = (out ++ [c1, c2, c3, c4]) ++ ([r0, r1, r2, r3, r4, r5, r6, r7].drop (0 + 1)).flatMap w4 by
                      rw [H.out, ← hc1, ← hc2, ← hc3, ← hc4]; simp [w4])
                    clear hc1 hc2 hc3 hc4 H
                    go_wp2_with (at_builtin; refine wpList_app RByte.ok _ rfl (.tmp 72) (.tmp 84) 43 rfl base 5 (.int .u8 0) 1 Tryd.underlying43 info_u8o rfl (by decide) No _ out rfl (hown.alloc RByte.ok (no_lt _) _) ⟨_, 0, none⟩ 4 4 [c1, c2, c3, c4] rfl rfl (news_bytes _ _ _ _ [c1, c2, c3, c4] (by simp)) (no_lt _) (by simp; omega) (by simp [maxLen]; omega) (by simp; omega) ?_; intro v7 w7 hown7 hg7 hb7 hat7; have hsz7 := hb7.size; simp at hsz7)
                    go_roundw
                    case rel => exact ⟨0 + 1, out ++ [c1, c2, c3, c4], by omega, by rw [List.length_append]; simp only [List.length_cons, List.length_nil]; omega, by go_num, hown7, (hb.alloc (by omega) _).trans hb7, HE⟩
                    case measure => simp [intOf]
                  | 1, _ =>
                    have hix : ∀ W, (Instr.index 96 (.agg #[.int .u32 (W32 r0), .int .u32 (W32 r1), .int .u32 (W32 r2), .int .u32 (W32 r3), .int .u32 (W32 r4), .int .u32 (W32 r5), .int .u32 (W32 r6), .int .u32 (W32 r7)]) (.int .i64 1)).run Tryd.prog W = .ok (.int .u32 (W32 r1)) W := fun W => by kernel_rfl
                    obtain ⟨c1, hc1⟩ : ∃ c, (r1 >>> 24).toUInt8 = c := ⟨_, rfl⟩
                    obtain ⟨c2, hc2⟩ : ∃ c, (r1 >>> 16).toUInt8 = c := ⟨_, rfl⟩
                    obtain ⟨c3, hc3⟩ : ∃ c, (r1 >>> 8).toUInt8 = c := ⟨_, rfl⟩
                    obtain ⟨c4, hc4⟩ : ∃ c, r1.toUInt8 = c := ⟨_, rfl⟩
                    have v1 : IntKind.u8.wrap (W32 r1 / (16777216 : Int)) = (c1.toNat : Int) := by rw [wsr24, w_u8, hc1]
                    have v2 : IntKind.u8.wrap (W32 r1 / (65536 : Int)) = (c2.toNat : Int) := by rw [wsr16, w_u8, hc2]
                    have v3 : IntKind.u8.wrap (W32 r1 / (256 : Int)) = (c3.toNat : Int) := by rw [wsr8, w_u8, hc3]
                    have v4 : IntKind.u8.wrap (W32 r1) = (c4.toNat : Int) := by rw [w_u8, hc4]
                    have HE := hide (show [r0, r1, r2, r3, r4, r5, r6, r7].flatMap w4 = (out ++ [c1, c2, c3, c4]) ++ ([r0, r1, r2, r3, r4, r5, r6, r7].drop (1 + 1)).flatMap w4 by
                      rw [H.out, ← hc1, ← hc2, ← hc3, ← hc4]; simp [w4])
                    clear hc1 hc2 hc3 hc4 H
                    go_wp2_with (at_builtin; refine wpList_app RByte.ok _ rfl (.tmp 72) (.tmp 84) 43 rfl base 5 (.int .u8 0) 1 Tryd.underlying43 info_u8o rfl (by decide) No _ out rfl (hown.alloc RByte.ok (no_lt _) _) ⟨_, 0, none⟩ 4 4 [c1, c2, c3, c4] rfl rfl (news_bytes _ _ _ _ [c1, c2, c3, c4] (by simp)) (no_lt _) (by simp; omega) (by simp [maxLen]; omega) (by simp; omega) ?_; intro v7 w7 hown7 hg7 hb7 hat7; have hsz7 := hb7.size; simp at hsz7)
                    go_roundw
                    case rel => exact ⟨1 + 1, out ++ [c1, c2, c3, c4], by omega, by rw [List.length_append]; simp only [List.length_cons, List.length_nil]; omega, by go_num, hown7, (hb.alloc (by omega) _).trans hb7, HE⟩
                    case measure => simp [intOf]
                  | 2, _ =>
                    have hix : ∀ W, (Instr.index 96 (.agg #[.int .u32 (W32 r0), .int .u32 (W32 r1), .int .u32 (W32 r2), .int .u32 (W32 r3), .int .u32 (W32 r4), .int .u32 (W32 r5), .int .u32 (W32 r6), .int .u32 (W32 r7)]) (.int .i64 2)).run Tryd.prog W = .ok (.int .u32 (W32 r2)) W := fun W => by kernel_rfl
                    obtain ⟨c1, hc1⟩ : ∃ c, (r2 >>> 24).toUInt8 = c := ⟨_, rfl⟩
                    obtain ⟨c2, hc2⟩ : ∃ c, (r2 >>> 16).toUInt8 = c := ⟨_, rfl⟩
                    obtain ⟨c3, hc3⟩ : ∃ c, (r2 >>> 8).toUInt8 = c := ⟨_, rfl⟩
                    obtain ⟨c4, hc4⟩ : ∃ c, r2.toUInt8 = c := ⟨_, rfl⟩
                    have v1 : IntKind.u8.wrap (W32 r2 / (16777216 : Int)) = (c1.toNat : Int) := by rw [wsr24, w_u8, hc1]
                    have v2 : IntKind.u8.wrap (W32 r2 / (65536 : Int)) = (c2.toNat : Int) := by rw [wsr16, w_u8, hc2]
                    have v3 : IntKind.u8.wrap (W32 r2 / (256 : Int)) = (c3.toNat : Int) := by rw [wsr8, w_u8, hc3]
                    have v4 : IntKind.u8.wrap (W32 r2) = (c4.toNat : Int) := by rw [w_u8, hc4]
                    have HE := hide (show [r0, r1, r2, r3, r4, r5, r6, r7].flatMap w4 = (out ++ [c1, c2, c3, c4]) ++ ([r0, r1, r2, r3, r4, r5, r6, r7].drop (2 + 1)).flatMap w4 by
                      rw [H.out, ← hc1, ← hc2, ← hc3, ← hc4]; simp [w4])
                    clear hc1 hc2 hc3 hc4 H
                    go_wp2_with (at_builtin; refine wpList_app RByte.ok _ rfl (.tmp 72) (.tmp 84) 43 rfl base 5 (.int .u8 0) 1 Tryd.underlying43 info_u8o rfl (by decide) No _ out rfl (hown.alloc RByte.ok (no_lt _) _) ⟨_, 0, none⟩ 4 4 [c1, c2, c3, c4] rfl rfl (news_bytes _ _ _ _ [c1, c2, c3, c4] (by simp)) (no_lt _) (by simp; omega) (by simp [maxLen]; omega) (by simp; omega) ?_; intro v7 w7 hown7 hg7 hb7 hat7; have hsz7 := hb7.size; simp at hsz7)
                    go_roundw
                    case rel => exact ⟨2 + 1, out ++ [c1, c2, c3, c4], by omega, by rw [List.length_append]; simp only [List.length_cons, List.length_nil]; omega, by go_num, hown7, (hb.alloc (by omega) _).trans hb7, HE⟩
                    case measure => simp [intOf]
                  | 3, _ =>
                    have hix : ∀ W, (Instr.index 96 (.agg #[.int .u32 (W32 r0), .int .u32 (W32 r1), .int .u32 (W32 r2), .int .u32 (W32 r3), .int .u32 (W32 r4), .int .u32 (W32 r5), .int .u32 (W32 r6), .int .u32 (W32 r7)]) (.int .i64 3)).run Tryd.prog W = .ok (.int .u32 (W32 r3)) W := fun W => by kernel_rfl
                    obtain ⟨c1, hc1⟩ : ∃ c, (r3 >>> 24).toUInt8 = c := ⟨_, rfl⟩
                    obtain ⟨c2, hc2⟩ : ∃ c, (r3 >>> 16).toUInt8 = c := ⟨_, rfl⟩
                    obtain ⟨c3, hc3⟩ : ∃ c, (r3 >>> 8).toUInt8 = c := ⟨_, rfl⟩
                    obtain ⟨c4, hc4⟩ : ∃ c, r3.toUInt8 = c := ⟨_, rfl⟩
                    have v1 : IntKind.u8.wrap (W32 r3 / (16777216 : Int)) = (c1.toNat : Int) := by rw [wsr24, w_u8, hc1]
                    have v2 : IntKind.u8.wrap (W32 r3 / (65536 : Int)) = (c2.toNat : Int) := by rw [wsr16, w_u8, hc2]
                    have v3 : IntKind.u8.wrap (W32 r3 / (256 : Int)) = (c3.toNat : Int) := by rw [wsr8, w_u8, hc3]
                    have v4 : IntKind.u8.wrap (W32 r3) = (c4.toNat : Int) := by rw [w_u8, hc4]
                    have HE := hide (show [r0, r1, r2, r3, r4, r5, r6, r7].flatMap w4 = (out ++ [c1, c2, c3, c4]) ++ ([r0, r1, r2, r3, r4, r5, r6, r7].drop (3 + 1)).flatMap w4 by
                      rw [H.out, ← hc1, ← hc2, ← hc3, ← hc4]; simp [w4])
                    clear hc1 hc2 hc3 hc4 H
                    go_wp2_with (at_builtin; refine wpList_app RByte.ok _ rfl (.tmp 72) (.tmp 84) 43 rfl base 5 (.int .u8 0) 1 Tryd.underlying43 info_u8o rfl (by decide) No _ out rfl (hown.alloc RByte.ok (no_lt _) _) ⟨_, 0, none⟩ 4 4 [c1, c2, c3, c4] rfl rfl (news_bytes _ _ _ _ [c1, c2, c3, c4] (by simp)) (no_lt _) (by simp; omega) (by simp [maxLen]; omega) (by simp; omega) ?_; intro v7 w7 hown7 hg7 hb7 hat7; have hsz7 := hb7.size; simp at hsz7)
                    go_roundw
                    case rel => exact ⟨3 + 1, out ++ [c1, c2, c3, c4], by omega, by rw [List.length_append]; simp only [List.length_cons, List.length_nil]; omega, by go_num, hown7, (hb.alloc (by omega) _).trans hb7, HE⟩
                    case measure => simp [intOf]
                  | 4, _ =>
                    have hix : ∀ W, (Instr.index 96 (.agg #[.int .u32 (W32 r0), .int .u32 (W32 r1), .int .u32 (W32 r2), .int .u32 (W32 r3), .int .u32 (W32 r4), .int .u32 (W32 r5), .int .u32 (W32 r6), .int .u32 (W32 r7)]) (.int .i64 4)).run Tryd.prog W = .ok (.int .u32 (W32 r4)) W := fun W => by kernel_rfl
                    obtain ⟨c1, hc1⟩ : ∃ c, (r4 >>> 24).toUInt8 = c := ⟨_, rfl⟩
                    obtain ⟨c2, hc2⟩ : ∃ c, (r4 >>> 16).toUInt8 = c := ⟨_, rfl⟩
                    obtain ⟨c3, hc3⟩ : ∃ c, (r4 >>> 8).toUInt8 = c := ⟨_, rfl⟩
                    obtain ⟨c4, hc4⟩ : ∃ c, r4.toUInt8 = c := ⟨_, rfl⟩
                    have v1 : IntKind.u8.wrap (W32 r4 / (16777216 : Int)) = (c1.toNat : Int) := by rw [wsr24, w_u8, hc1]
                    have v2 : IntKind.u8.wrap (W32 r4 / (65536 : Int)) = (c2.toNat : Int) := by rw [wsr16, w_u8, hc2]
                    have v3 : IntKind.u8.wrap (W32 r4 / (256 : Int)) = (c3.toNat : Int) := by rw [wsr8, w_u8, hc3]
                    have v4 : IntKind.u8.wrap (W32 r4) = (c4.toNat : Int) := by rw [w_u8, hc4]
                    have HE := hide (show [r0, r1, r2, r3, r4, r5, r6, r7].flatMap w4 = (out ++ [c1, c2, c3, c4]) ++ ([r0, r1, r2, r3, r4, r5, r6, r7].drop (4 + 1)).flatMap w4 by
                      rw [H.out, ← hc1, ← hc2, ← hc3, ← hc4]; simp [w4])
                    clear hc1 hc2 hc3 hc4 H
                    go_wp2_with (at_builtin; refine wpList_app RByte.ok _ rfl (.tmp 72) (.tmp 84) 43 rfl base 5 (.int .u8 0) 1 Tryd.underlying43 info_u8o rfl (by decide) No _ out rfl (hown.alloc RByte.ok (no_lt _) _) ⟨_, 0, none⟩ 4 4 [c1, c2, c3, c4] rfl rfl (news_bytes _ _ _ _ [c1, c2, c3, c4] (by simp)) (no_lt _) (by simp; omega) (by simp [maxLen]; omega) (by simp; omega) ?_; intro v7 w7 hown7 hg7 hb7 hat7; have hsz7 := hb7.size; simp at hsz7)
                    go_roundw
                    case rel => exact ⟨4 + 1, out ++ [c1, c2, c3, c4], by omega, by rw [List.length_append]; simp only [List.length_cons, List.length_nil]; omega, by go_num, hown7, (hb.alloc (by omega) _).trans hb7, HE⟩
                    case measure => simp [intOf]
                  | 5, _ =>
                    have hix : ∀ W, (Instr.index 96 (.agg #[.int .u32 (W32 r0), .int .u32 (W32 r1), .int .u32 (W32 r2), .int .u32 (W32 r3), .int .u32 (W32 r4), .int .u32 (W32 r5), .int .u32 (W32 r6), .int .u32 (W32 r7)]) (.int .i64 5)).run Tryd.prog W = .ok (.int .u32 (W32 r5)) W := fun W => by kernel_rfl
                    obtain ⟨c1, hc1⟩ : ∃ c, (r5 >>> 24).toUInt8 = c := ⟨_, rfl⟩
                    obtain ⟨c2, hc2⟩ : ∃ c, (r5 >>> 16).toUInt8 = c := ⟨_, rfl⟩
                    obtain ⟨c3, hc3⟩ : ∃ c, (r5 >>> 8).toUInt8 = c := ⟨_, rfl⟩
                    obtain ⟨c4, hc4⟩ : ∃ c, r5.toUInt8 = c := ⟨_, rfl⟩
                    have v1 : IntKind.u8.wrap (W32 r5 / (16777216 : Int)) = (c1.toNat : Int) := by rw [wsr24, w_u8, hc1]
                    have v2 : IntKind.u8.wrap (W32 r5 / (65536 : Int)) = (c2.toNat : Int) := by rw [wsr16, w_u8, hc2]
                    have v3 : IntKind.u8.wrap (W32 r5 / (256 : Int)) = (c3.toNat : Int) := by rw [wsr8, w_u8, hc3]
                    have v4 : IntKind.u8.wrap (W32 r5) = (c4.toNat : Int) := by rw [w_u8, hc4]
                    have HE := hide (show [r0, r1, r2, r3, r4, r5, r6, r7].flatMap w4 = (out ++ [c1, c2, c3, c4]) ++ ([r0, r1, r2, r3, r4, r5, r6, r7].drop (5 + 1)).flatMap w4 by
                      rw [H.out, ← hc1, ← hc2, ← hc3, ← hc4]; simp [w4])
                    clear hc1 hc2 hc3 hc4 H
                    go_wp2_with (at_builtin; refine wpList_app RByte.ok _ rfl (.tmp 72) (.tmp 84) 43 rfl base 5 (.int .u8 0) 1 Tryd.underlying43 info_u8o rfl (by decide) No _ out rfl (hown.alloc RByte.ok (no_lt _) _) ⟨_, 0, none⟩ 4 4 [c1, c2, c3, c4] rfl rfl (news_bytes _ _ _ _ [c1, c2, c3, c4] (by simp)) (no_lt _) (by simp; omega) (by simp [maxLen]; omega) (by simp; omega) ?_; intro v7 w7 hown7 hg7 hb7 hat7; have hsz7 := hb7.size; simp at hsz7)
                    go_roundw
                    case rel => exact ⟨5 + 1, out ++ [c1, c2, c3, c4], by omega, by rw [List.length_append]; simp only [List.length_cons, List.length_nil]; omega, by go_num, hown7, (hb.alloc (by omega) _).trans hb7, HE⟩
                    case measure => simp [intOf]
                  | 6, _ =>
                    have hix : ∀ W, (Instr.index 96 (.agg #[.int .u32 (W32 r0), .int .u32 (W32 r1), .int .u32 (W32 r2), .int .u32 (W32 r3), .int .u32 (W32 r4), .int .u32 (W32 r5), .int .u32 (W32 r6), .int .u32 (W32 r7)]) (.int .i64 6)).run Tryd.prog W = .ok (.int .u32 (W32 r6)) W := fun W => by kernel_rfl
                    obtain ⟨c1, hc1⟩ : ∃ c, (r6 >>> 24).toUInt8 = c := ⟨_, rfl⟩
                    obtain ⟨c2, hc2⟩ : ∃ c, (r6 >>> 16).toUInt8 = c := ⟨_, rfl⟩
                    obtain ⟨c3, hc3⟩ : ∃ c, (r6 >>> 8).toUInt8 = c := ⟨_, rfl⟩
                    obtain ⟨c4, hc4⟩ : ∃ c, r6.toUInt8 = c := ⟨_, rfl⟩
                    have v1 : IntKind.u8.wrap (W32 r6 / (16777216 : Int)) = (c1.toNat : Int) := by rw [wsr24, w_u8, hc1]
                    have v2 : IntKind.u8.wrap (W32 r6 / (65536 : Int)) = (c2.toNat : Int) := by rw [wsr16, w_u8, hc2]
                    have v3 : IntKind.u8.wrap (W32 r6 / (256 : Int)) = (c3.toNat : Int) := by rw [wsr8, w_u8, hc3]
                    have v4 : IntKind.u8.wrap (W32 r6) = (c4.toNat : Int) := by rw [w_u8, hc4]
                    have HE := hide (show [r0, r1, r2, r3, r4, r5, r6, r7].flatMap w4 = (out ++ [c1, c2, c3, c4]) ++ ([r0, r1, r2, r3, r4, r5, r6, r7].drop (6 + 1)).flatMap w4 by
                      rw [H.out, ← hc1, ← hc2, ← hc3, ← hc4]; simp [w4])
                    clear hc1 hc2 hc3 hc4 H
                    go_wp2_with (at_builtin; refine wpList_app RByte.ok _ rfl (.tmp 72) (.tmp 84) 43 rfl base 5 (.int .u8 0) 1 Tryd.underlying43 info_u8o rfl (by decide) No _ out rfl (hown.alloc RByte.ok (no_lt _) _) ⟨_, 0, none⟩ 4 4 [c1, c2, c3, c4] rfl rfl (news_bytes _ _ _ _ [c1, c2, c3, c4] (by simp)) (no_lt _) (by simp; omega) (by simp [maxLen]; omega) (by simp; omega) ?_; intro v7 w7 hown7 hg7 hb7 hat7; have hsz7 := hb7.size; simp at hsz7)
                    go_roundw
                    case rel => exact ⟨6 + 1, out ++ [c1, c2, c3, c4], by omega, by rw [List.length_append]; simp only [List.length_cons, List.length_nil]; omega, by go_num, hown7, (hb.alloc (by omega) _).trans hb7, HE⟩
                    case measure => simp [intOf]
                  | 7, _ =>
                    have hix : ∀ W, (Instr.index 96 (.agg #[.int .u32 (W32 r0), .int .u32 (W32 r1), .int .u32 (W32 r2), .int .u32 (W32 r3), .int .u32 (W32 r4), .int .u32 (W32 r5), .int .u32 (W32 r6), .int .u32 (W32 r7)]) (.int .i64 7)).run Tryd.prog W = .ok (.int .u32 (W32 r7)) W := fun W => by kernel_rfl
                    obtain ⟨c1, hc1⟩ : ∃ c, (r7 >>> 24).toUInt8 = c := ⟨_, rfl⟩
                    obtain ⟨c2, hc2⟩ : ∃ c, (r7 >>> 16).toUInt8 = c := ⟨_, rfl⟩
                    obtain ⟨c3, hc3⟩ : ∃ c, (r7 >>> 8).toUInt8 = c := ⟨_, rfl⟩
                    obtain ⟨c4, hc4⟩ : ∃ c, r7.toUInt8 = c := ⟨_, rfl⟩
                    have v1 : IntKind.u8.wrap (W32 r7 / (16777216 : Int)) = (c1.toNat : Int) := by rw [wsr24, w_u8, hc1]
                    have v2 : IntKind.u8.wrap (W32 r7 / (65536 : Int)) = (c2.toNat : Int) := by rw [wsr16, w_u8, hc2]
                    have v3 : IntKind.u8.wrap (W32 r7 / (256 : Int)) = (c3.toNat : Int) := by rw [wsr8, w_u8, hc3]
                    have v4 : IntKind.u8.wrap (W32 r7) = (c4.toNat : Int) := by rw [w_u8, hc4]
                    have HE := hide (show [r0, r1, r2, r3, r4, r5, r6, r7].flatMap w4 = (out ++ [c1, c2, c3, c4]) ++ ([r0, r1, r2, r3, r4, r5, r6, r7].drop (7 + 1)).flatMap w4 by
                      rw [H.out, ← hc1, ← hc2, ← hc3, ← hc4]; simp [w4])
                    clear hc1 hc2 hc3 hc4 H
                    go_wp2_with (at_builtin; refine wpList_app RByte.ok _ rfl (.tmp 72) (.tmp 84) 43 rfl base 5 (.int .u8 0) 1 Tryd.underlying43 info_u8o rfl (by decide) No _ out rfl (hown.alloc RByte.ok (no_lt _) _) ⟨_, 0, none⟩ 4 4 [c1, c2, c3, c4] rfl rfl (news_bytes _ _ _ _ [c1, c2, c3, c4] (by simp)) (no_lt _) (by simp; omega) (by simp [maxLen]; omega) (by simp; omega) ?_; intro v7 w7 hown7 hg7 hb7 hat7; have hsz7 := hb7.size; simp at hsz7)
                    go_roundw
                    case rel => exact ⟨7 + 1, out ++ [c1, c2, c3, c4], by omega, by rw [List.length_append]; simp only [List.length_cons, List.length_nil]; omega, by go_num, hown7, (hb.alloc (by omega) _).trans hb7, HE⟩
                    case measure => simp [intOf]
                  | 8, _ =>
                    rw [show ((8 : Nat) : Int) = 8 from rfl]
                    have HF := hide (show [r0, r1, r2, r3, r4, r5, r6, r7].flatMap w4 = out by rw [H.out]; simp)
                    have hconv := run_bts_str (P := Tryd.prog) wr 43 9 5 Tryd.underlying43 Tryd.underlying5 Tryd.underlying9 _ _ _ (hown.sl RByte.ok)
                    go_wp2_with fail
                    go_ret
                    have hbw : Below wl.heap.size wl wr := HBASE.out ▸ hb
                    exact ⟨ret_str (by rw [HRR.out]; exact HF.out.symm), HBL.out.trans (hbw.mono HBL.out.size)⟩
end Go.Proofs.YtmgnihmjjijdoaaDoor
