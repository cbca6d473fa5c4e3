/- The reference's Sum of at most 54 bytes: one block. -/
import Derived.Test.YtmgnihmjjijdoaaDoorKShaB
import Derived.Test.YtmgnihmjjijdoaaDoorKLib2
namespace Go.Proofs.YtmgnihmjjijdoaaDoor
open Go.RowKit
def byteT (n k : Nat) : UInt8 := UInt8.ofNat (8 * n / 256 ^ k)
def tailS (n : Nat) : Nat → List UInt8
 | 0 => (List.replicate (64 - n) 0).set 0 128
 | k + 1 => (tailS n k).set (63 - n - k) (byteT n k)
theorem tailS_len (n k : Nat) : (tailS n k).length = 64 - n := by
 induction k with
 | zero => rw [tailS, List.length_set, List.length_replicate]
 | succ k ih => rw [tailS, List.length_set, ih]
def w4 (x : UInt32) : List UInt8 := [(x >>> 24).toUInt8, (x >>> 16).toUInt8, (x >>> 8).toUInt8, x.toUInt8]
def sum1 (b : List UInt8) : List UInt8 := (blockS (b ++ tailS b.length 8) initS).list.flatMap w4
theorem w4_flat (l : List UInt32) : (l.flatMap w4).length = 4 * l.length := by
  induction l with
  | nil => rfl
  | cons x l ih =>
    rw [List.flatMap_cons, List.length_append, ih]
    show 4 + _ = 4 * (l.length + 1)
    omega
theorem sum1_len (b : List UInt8) : (sum1 b).length = 32 := w4_flat _
theorem w_u8 (x : UInt32) : IntKind.u8.wrap (W32 x) = ((x.toUInt8).toNat : Int) := by
 rw [IntKind.wrap_u8', W32, UInt32.toNat_toUInt8]
 omega
theorem Own.madeS {α : Type} (R : Rep α) {size : Nat} {e : TypeId} {w : World} {base : Nat} {v : Value} (S : Nat → Prop) (h : w.ownsRow base e size v 0 []) (hS : ∀ g, v.ownBlock = some g → ¬ S g) : Own R size e w base S v ([] : List α) :=
 ⟨[], h, hS, fun i x h => by simp at h⟩
theorem Sl.wordAt {w : World} {S : Nat → Prop} {b o n c : Nat} {l : List UInt32} (h : Sl RW 1 w S l [.slice (some ⟨b, o, none⟩) n c]) {i : Nat} (hi : i < l.length) : S b ∧ w.cell? ⟨b, o + i, none⟩ = some (.int .u32 (W32 l[i])) := by
 obtain ⟨b', o', xs', hA', hS, hr, hcell⟩ := h.at_ hi
 cases hA'
 have hr' : xs' = wC _ := hr
 subst hr'
 have := hcell 0 _ rfl
 rw [Nat.mul_one, Nat.add_zero] at this
 exact ⟨hS, this⟩
set_option maxRecDepth 100000 in
set_option maxHeartbeats 8000000 in
theorem rSum_any (xs : List (List UInt8)) (A : Option Addr) (c : Nat) (hx : xs.flatten.length ≤ 54) (w : World) (h : Sl RStr 1 w (Lt w.heap.size) xs [.slice A xs.length c]) :
  Calls Tryd.prog 31 #[.slice A xs.length c] w fun e w' => e = .returned (.string ⟨(sum1 xs.flatten).toArray⟩) ∧ Below w.heap.size w w' := by
 obtain ⟨-, hnc, hcm⟩ := h.len_
 unfold maxLen at hcm
 have HS := hide h
 clear h
 go_enter Tryd.func31, Tryd.ntmps31
 go_wp2_with fail
 go_loopw [3, 17] (fun s i wr => w = wr ∧ ∃ k : Nat, k ≤ xs.length ∧ i = .int .i64 k ∧ s = .string ⟨(xs.take k).flatten.toArray⟩) (fun _ i _ => xs.length - (intOf i).toNat)
 case atStart => exact ⟨rfl, 0, Nat.zero_le _, rfl, rfl⟩
 case round =>
  obtain ⟨rfl, k, hk, rfl, rfl⟩ := hrel
  by_cases hkl : k < xs.length
  ·obtain ⟨bk, o, hA, hb, hc⟩ := HS.out.strAt hkl
   subst hA
   have hfl : (xs.take (k + 1)).flatten = (xs.take k).flatten ++ xs[k] := by rw [List.take_succ_eq_append_getElem hkl, List.flatten_append]; simp
   have hle := flat_take_le xs (k + 1)
   rw [hfl, List.length_append] at hle
   obtain ⟨a, ha⟩ : ∃ a : ByteArray, a = ⟨(xs.take k).flatten.toArray⟩ := ⟨_, rfl⟩
   obtain ⟨b, hb'⟩ : ∃ b : ByteArray, b = ⟨xs[k].toArray⟩ := ⟨_, rfl⟩
   have hza : a.size = (xs.take k).flatten.length := by rw [ha, ba_mk]
   have hzb : b.size = xs[k].length := by rw [hb', ba_mk]
   have HAB := hide (show a ++ b = ⟨(xs.take (k + 1)).flatten.toArray⟩ by rw [ha, hb', ba_app, hfl])
   rw [← ha]
   rw [← hb'] at hc
   have hbs : ¬ 9223372036854775807 < a.size + b.size := by omega
   obtain ⟨y, hy⟩ : ∃ y : ByteArray, a ++ b = y := ⟨_, rfl⟩
   have HY := hide hy
   clear hfl hle ha hb' hza hzb
   go_wp2_with fail
   go_roundw
   case rel => exact ⟨trivial, k + 1, by omega, by go_num, by rw [← HAB.out, HY.out]⟩
   case measure => simp [intOf]; omega
  ·have hke : k = xs.length := by omega
   subst hke
   rw [List.take_length]
   obtain ⟨y, hy⟩ : ∃ y : ByteArray, y = ⟨xs.flatten.toArray⟩ := ⟨_, rfl⟩
   rw [← hy]
   obtain ⟨n, hn⟩ : ∃ n, xs.flatten.length = n := ⟨_, rfl⟩
   have hys : y.size = n := by rw [hy, ba_mk, hn]
   have hn54 : n ≤ 54 := by omega
   have HY := hide hy
   have HN := hide hn
   obtain ⟨q, hq⟩ : ∃ q, q = n + 9 := ⟨_, rfl⟩
   obtain ⟨p, hp⟩ : ∃ p, p = 55 - n := ⟨_, rfl⟩
   obtain ⟨m, hm⟩ : ∃ m, m = 64 - n := ⟨_, rfl⟩
   have i1 : (n : Int) + 9 = (q : Int) := by omega
   have i2 : (q : Int).tmod 64 = (q : Int) := by rw [Int.tmod_eq_emod_of_nonneg (by omega)]; omega
   have i3 : (64 : Int) - (q : Int) = (p : Int) := by omega
   have i4 : ((p : Int) == 64) = false := beq_false_of_ne (by omega)
   have i5 : (9 : Int) + (p : Int) = (m : Int) := by omega
   have hq63 : q ≤ 63 := by omega
   have hm64 : m ≤ 64 := by omega
   have hm9 : 9 < m := by omega
   have hmn := hide hm
   clear hy hn hk hx hq hp hm
   have hin := sl_pu (f := wC) (size := 1) (fun _ => rfl) w #[.int .u32 1779033703, .int .u32 3144134277, .int .u32 1013904242, .int .u32 2773480762, .int .u32 1359893119, .int .u32 2600822924, .int .u32 528734635, .int .u32 1541459225] 74 initS.list rfl (by simp [maxLen, S8.list])
   obtain ⟨W1, hW1⟩ : ∃ W, W = w.alloc (.cells #[.int .u32 1779033703, .int .u32 3144134277, .int .u32 1013904242, .int .u32 2773480762, .int .u32 1359893119, .int .u32 2600822924, .int .u32 528734635, .int .u32 1541459225] 74) := ⟨_, rfl⟩
   have hb1 : Below w.heap.size w W1 := by rw [hW1]; exact (Below.refl _ _).alloc (Nat.le_refl _) _
   rw [← hW1] at hin
   have HIN := hide hin
   have HB1 := hide hb1
   clear hin hb1
   go_upto_region 9 with fail
   rw [← hW1]
   clear hW1
   obtain ⟨gh, hgh⟩ : ∃ g, w.heap.size = g := ⟨_, rfl⟩
   rw [hgh] at HIN ⊢
   go_wp2_with (at_make; refine wpList_make_bytes rfl (.tmp 35) (.tmp 35) 43 5 rfl Tryd.underlying43 info_u8o m rfl rfl (by omega) ?_; intro g w2 hg1 hg2 hb2 hby; have hsz2 : W1.heap.size ≤ w2.heap.size := hb2.size; have hfz := hby.free (i := 0) (by rw [List.length_replicate]; omega); have hc0 := hby.cell (i := 0) (by rw [List.length_replicate]; omega))
   have hby0 : BytesAt (w2.setCell ⟨g, 0, none⟩ (.int .u8 128)) 5 g (tailS n 0) := by
    rw [tailS, ← hmn.out]
    exact hby.set_ (i := 0) (by rw [List.length_replicate]; omega) 128
   have hb0 : Below w.heap.size w (w2.setCell ⟨g, 0, none⟩ (.int .u8 128)) := (HB1.out.trans (hb2.mono HB1.out.size)).setCell (p := ⟨g, 0, none⟩) (by show w.heap.size ≤ g; have := HB1.out.size; omega) _
   have hb1 : Below W1.heap.size W1 (w2.setCell ⟨g, 0, none⟩ (.int .u8 128)) := hb2.setCell (p := ⟨g, 0, none⟩) hg1 _
   obtain ⟨w3, hw3⟩ : ∃ W, W = w2.setCell ⟨g, 0, none⟩ (.int .u8 128) := ⟨_, rfl⟩
   rw [← hw3] at hby0 hb0 hb1 ⊢
   have HBY := hide hby0
   have HB3 := hide hb0
   have HB13 := hide hb1
   have hgw : w.heap.size ≤ g := by have := HB1.out.size; omega
   have hgn : W1.heap.size ≤ g := hg1
   clear hw3 hby0 hb0 hb1 hby hc0 hfz hb2 hg1 hg2 hsz2
   go_loopw [10] (fun i wr => ∃ k : Nat, k ≤ 8 ∧ i = .int .i64 k ∧ BytesAt wr 5 g (tailS n k) ∧ Below w.heap.size w wr ∧ Below W1.heap.size W1 wr) (fun i _ => 8 - (intOf i).toNat)
   case atStart => exact ⟨0, by omega, rfl, HBY.out, HB3.out, HB13.out⟩
   case round =>
    obtain ⟨k, hk, rfl, hby, hb, hb1⟩ := hrel
    have hlen := tailS_len n k
    rw [← hmn.out] at hlen
    by_cases hlt : k < 8
    ·obtain ⟨j, hj⟩ : ∃ j, j = 63 - n - k := ⟨_, rfl⟩
     have hjm : j < (tailS n k).length := by rw [hlen]; have := hmn.out; omega
     have hcell := hby.cell hjm
     have hfr := hby.free hjm
     have HBY2 := hide (hby.set_ hjm (byteT n k))
     have HB4 := hide hb
     have HB5 := hide hb1
     obtain ⟨N, hN⟩ : ∃ N, N = 8 * n := ⟨_, rfl⟩
     have j1 : (8 : Int) * (n : Int) = (N : Int) := by omega
     obtain ⟨M, hM⟩ : ∃ M, M = m - 1 := ⟨_, rfl⟩
     have j2 : (m : Int) - 1 = (M : Int) := by omega
     have j3 : (M : Int) - (k : Int) = (j : Int) := by have := hmn.out; omega
     have hN432 : N ≤ 432 := by omega
     have hjm2 : j < m := by rw [hlen] at hjm; exact hjm
     obtain ⟨u, hu⟩ : ∃ u, (tailS n k)[j] = u := ⟨_, rfl⟩
     rw [hu] at hcell
     obtain ⟨d, hd⟩ : ∃ d, byteT n k = d := ⟨_, rfl⟩
     have hdv : IntKind.u8.wrap (((8 * n / 256 ^ k : Nat)) : Int) = (d.toNat : Int) := by rw [u8_of, ← hd]; rfl
     rw [← hN] at hdv
     rw [hd] at HBY2
     have HST := hide (show tailS n (k + 1) = (tailS n k).set j d by rw [tailS, hd, hj])
     clear hu hd hlen hby hb hb1 hN hM hjm hj
     have hcases : k = 0 ∨ k = 1 ∨ k = 2 ∨ k = 3 ∨ k = 4 ∨ k = 5 ∨ k = 6 ∨ k = 7 := by omega
     rcases hcases with rfl | rfl | rfl | rfl | rfl | rfl | rfl | rfl
     ·simp only [Nat.reducePow, Nat.div_one] at hdv
      have hjM : j = M := by omega
      subst hjM
      clear j3
      go_wp2_with fail
      go_roundw
      case rel => exact ⟨1, by omega, rfl, by rw [HST.out]; exact HBY2.out, HB4.out.setCell (p := ⟨g, j, none⟩) hgw _, HB5.out.setCell (p := ⟨g, j, none⟩) hgn _⟩
      case measure => simp [intOf]
     ·simp only [Nat.reducePow] at hdv
      have hdv2 : (N : Int) / 256 = (d.toNat : Int) := by
       rw [IntKind.wrap_u8'] at hdv
       omega
      have j3' : (M : Int) - 1 = (j : Int) := by omega
      clear hdv j3
      go_wp2_with fail
      go_roundw
      case rel => exact ⟨1 + 1, by omega, rfl, by rw [HST.out]; exact HBY2.out, HB4.out.setCell (p := ⟨g, j, none⟩) hgw _, HB5.out.setCell (p := ⟨g, j, none⟩) hgn _⟩
      case measure => simp [intOf]
     ·simp only [Nat.reducePow] at hdv
      have hdv2 : (N : Int) / 65536 = (d.toNat : Int) := by
       rw [IntKind.wrap_u8'] at hdv
       omega
      have j3' : (M : Int) - 2 = (j : Int) := by omega
      clear hdv j3
      go_wp2_with fail
      go_roundw
      case rel => exact ⟨2 + 1, by omega, rfl, by rw [HST.out]; exact HBY2.out, HB4.out.setCell (p := ⟨g, j, none⟩) hgw _, HB5.out.setCell (p := ⟨g, j, none⟩) hgn _⟩
      case measure => simp [intOf]
     ·simp only [Nat.reducePow] at hdv
      have hdv2 : (N : Int) / 16777216 = (d.toNat : Int) := by
       rw [IntKind.wrap_u8'] at hdv
       omega
      have j3' : (M : Int) - 3 = (j : Int) := by omega
      clear hdv j3
      go_wp2_with fail
      go_roundw
      case rel => exact ⟨3 + 1, by omega, rfl, by rw [HST.out]; exact HBY2.out, HB4.out.setCell (p := ⟨g, j, none⟩) hgw _, HB5.out.setCell (p := ⟨g, j, none⟩) hgn _⟩
      case measure => simp [intOf]
     ·simp only [Nat.reducePow] at hdv
      have hdv2 : (N : Int) / 4294967296 = (d.toNat : Int) := by
       rw [IntKind.wrap_u8'] at hdv
       omega
      have j3' : (M : Int) - 4 = (j : Int) := by omega
      clear hdv j3
      go_wp2_with fail
      go_roundw
      case rel => exact ⟨4 + 1, by omega, rfl, by rw [HST.out]; exact HBY2.out, HB4.out.setCell (p := ⟨g, j, none⟩) hgw _, HB5.out.setCell (p := ⟨g, j, none⟩) hgn _⟩
      case measure => simp [intOf]
     ·simp only [Nat.reducePow] at hdv
      have hdv2 : (N : Int) / 1099511627776 = (d.toNat : Int) := by
       rw [IntKind.wrap_u8'] at hdv
       omega
      have j3' : (M : Int) - 5 = (j : Int) := by omega
      clear hdv j3
      go_wp2_with fail
      go_roundw
      case rel => exact ⟨5 + 1, by omega, rfl, by rw [HST.out]; exact HBY2.out, HB4.out.setCell (p := ⟨g, j, none⟩) hgw _, HB5.out.setCell (p := ⟨g, j, none⟩) hgn _⟩
      case measure => simp [intOf]
     ·simp only [Nat.reducePow] at hdv
      have hdv2 : (N : Int) / 281474976710656 = (d.toNat : Int) := by
       rw [IntKind.wrap_u8'] at hdv
       omega
      have j3' : (M : Int) - 6 = (j : Int) := by omega
      clear hdv j3
      go_wp2_with fail
      go_roundw
      case rel => exact ⟨6 + 1, by omega, rfl, by rw [HST.out]; exact HBY2.out, HB4.out.setCell (p := ⟨g, j, none⟩) hgw _, HB5.out.setCell (p := ⟨g, j, none⟩) hgn _⟩
      case measure => simp [intOf]
     ·simp only [Nat.reducePow] at hdv
      have hdv2 : (N : Int) / 72057594037927936 = (d.toNat : Int) := by
       rw [IntKind.wrap_u8'] at hdv
       omega
      have j3' : (M : Int) - 7 = (j : Int) := by omega
      clear hdv j3
      go_wp2_with fail
      go_roundw
      case rel => exact ⟨7 + 1, by omega, rfl, by rw [HST.out]; exact HBY2.out, HB4.out.setCell (p := ⟨g, j, none⟩) hgw _, HB5.out.setCell (p := ⟨g, j, none⟩) hgn _⟩
      case measure => simp [intOf]
    ·have hk8 : k = 8 := by omega
     subst hk8
     rw [show ((8 : Nat) : Int) = 8 from rfl]
     have hsl := hby.sl (c := m) (by omega) (by unfold maxLen; omega)
     rw [hlen] at hsl
     have hk1 := run_bts_str (P := Tryd.prog) wr 43 9 5 Tryd.underlying43 Tryd.underlying5 Tryd.underlying9 _ _ _ hsl
     obtain ⟨z, hz⟩ : ∃ z : ByteArray, z = ⟨(tailS n 8).toArray⟩ := ⟨_, rfl⟩
     have hzs : z.size = m := by rw [hz, ba_mk, hlen]
     rw [← hz] at hk1
     obtain ⟨B, hB⟩ : ∃ B : ByteArray, y ++ z = B := ⟨_, rfl⟩
     have hBs : B.size = 64 := by
      rw [← hB, ByteArray.size_append, hys, hzs]
      have := hmn.out
      omega
     have hbs : ¬ 9223372036854775807 < y.size + z.size := by omega
     have HBL := hide (show B.data.toList = xs.flatten ++ tailS xs.flatten.length 8 by rw [← hB, hz, HY.out, HN.out, ba_app])
     have HB3 := hide hb
     have hin := (Sl.ok RW.ok).mono HIN.out (fun j hj => hb1.block j hj) (fun _ hj => (show Lt wr.heap.size _ from Nat.lt_of_lt_of_le hj hb1.size))
     have HIN2 := hide hin
     have HSZ1 := hide hb1.size
     clear hlen hsl hz hb hb1 hin hlt hby
     go_upto_region 19 with fail
     clear hk1 hzs hbs hB
     obtain ⟨r, hr⟩ : ∃ r, blockS (xs.flatten ++ tailS xs.flatten.length 8) initS = r := ⟨_, rfl⟩
     have HR := hide (show blockS B.data.toList initS = r by rw [HBL.out, hr])
     have HR2 := hide (show sum1 xs.flatten = r.list.flatMap w4 by rw [sum1, hr])
     have hext : B.extract 0 64 = B := by
      apply ByteArray.ext
      rw [ByteArray.data_extract]
      exact Array.extract_eq_self_of_le (by rw [← hBs]; exact Nat.le_refl _)
     obtain ⟨w4', hw4⟩ : ∃ W, W = wr := ⟨_, rfl⟩
     have HBSZ := hide hBs
     clear hr hys i1 i2 i3 i4 i5
     go_wp2_with fail
     go_loopw [6, 11] (fun v i wr => Below w.heap.size w wr ∧ ∃ (A' : Option Addr) (c' : Nat) (t : S8), v = .slice A' 8 c' ∧ Sl RW 1 wr (Lt wr.heap.size) t.list [.slice A' 8 c'] ∧ (i = .int .i64 0 ∧ t = initS ∨ i = .int .i64 64 ∧ t = r)) (fun _ i _ => 64 - (intOf i).toNat)
     case atStart => exact ⟨HB3.out, _, _, initS, rfl, HIN2.out, Or.inl ⟨rfl, rfl⟩⟩
     case round =>
      obtain ⟨hb, A', c', t, rfl, hsl, hcase⟩ := hrel
      have HSL := hide hsl
      have HB5 := hide hb
      rcases hcase with ⟨rfl, rfl⟩ | ⟨rfl, ht⟩
      ·go_wp2_with fail
       refine (rround_any initS A' 8 c' B HBSZ.out wr HSL.out).mono ?_
       rintro e w5 ⟨A5, c5, rfl, hsl5, hb5⟩
       rw [HR.out] at hsl5
       have HSL5 := hide hsl5
       have HB6 := hide (HB5.out.trans (hb5.mono HB5.out.size))
       clear hsl5 hb5 hsl hb
       go_wp2_with fail
       go_roundw
       case rel => exact ⟨HB6.out, A5, c5, r, rfl, HSL5.out, Or.inr ⟨rfl, rfl⟩⟩
       case measure => simp [intOf]
      ·rw [ht] at HSL
       clear hsl hb hext ht
       obtain ⟨w5, rfl⟩ : ∃ W, W = wr := ⟨_, rfl⟩
       obtain ⟨bh, oh, rfl, hbh, -, h0, h1, h2, h3, h4, h5, h6, h7⟩ := S8.cells HSL.out
       clear h0 h1 h2 h3 h4 h5 h6 h7
       obtain ⟨i0, hi0, hz0, hz1, hz2⟩ := info_parts info_u8o
       obtain ⟨base, hbase, HBASE⟩ : ∃ base, base ≤ w5.heap.size ∧ Hid (base = w5.heap.size) := ⟨_, Nat.le_refl _, rfl⟩
       have hbs2 := HBSZ.out
       go_wp2_with (at_make; refine wpList_make_own _ rfl (.const (.int .i64 0)) (.const (.int .i64 32)) 43 rfl base 5 i0 (.int .u8 0) 1 Tryd.underlying43 hi0 hz0 hz1 .i64 .i64 32 32 rfl rfl rfl (by rw [hz2]; omega) (by unfold maxLen; omega) hbase ?_; intro w6 hown6 hg6)
       have hb6 : Below base w5 w6 := (Below.refl _ _).grown hg6 hbase (fun k h => by cases h)
       have hown := Own.madeS RByte No hown6 (fun _ _ h => h)
       obtain ⟨base2, hbase2, HBASE2⟩ : ∃ base2, base2 = base ∧ Hid (base2 = base) := ⟨_, rfl, rfl⟩
       clear hown6 hg6 hi0 hz0 hz1 hz2 hbase2
       go_loopw [12, 76] (fun v i wr => ∃ (k : Nat) (out : List UInt8), k ≤ 8 ∧ out.length ≤ 4 * k ∧ i = .int .i64 k ∧ Own RByte 1 5 wr base No v out ∧ Below base w5 wr ∧ Hid (r.list.flatMap w4 = out ++ (r.list.drop k).flatMap w4)) (fun _ i _ => 8 - (intOf i).toNat)
       case atStart => exact ⟨0, [], by omega, by simp, rfl, hown, hb6, rfl⟩
       case round =>
        clear hown hb6
        obtain ⟨k, out, hk, hol, rfl, hown, hb, H⟩ := hrel
        have hgs : base ≤ wr.heap.size := by have := hb.size; omega
        obtain ⟨A9, cp, hv⟩ := (hown.sl RByte.ok).shape
        subst hv
        by_cases hlt : k < 8
        ·have hkl : k < r.list.length := hlt
         have hcell : wr.cell? ⟨bh, oh + k, none⟩ = some (.int .u32 (W32 r.list[k])) := (World.cell?_of_block (hb.block bh (by have := HBASE.out; have h9 : bh < w5.heap.size := hbh; omega))).trans (HSL.out.wordAt hkl).2
         have hd := List.drop_eq_getElem_cons hkl
         obtain ⟨x, hx⟩ : ∃ x, r.list[k] = x := ⟨_, rfl⟩
         rw [hx] at hcell hd
         obtain ⟨c1, hc1⟩ : ∃ c, (x >>> 24).toUInt8 = c := ⟨_, rfl⟩
         obtain ⟨c2, hc2⟩ : ∃ c, (x >>> 16).toUInt8 = c := ⟨_, rfl⟩
         obtain ⟨c3, hc3⟩ : ∃ c, (x >>> 8).toUInt8 = c := ⟨_, rfl⟩
         obtain ⟨c4, hc4⟩ : ∃ c, x.toUInt8 = c := ⟨_, rfl⟩
         have v1 : IntKind.u8.wrap (W32 x / (16777216 : Int)) = (c1.toNat : Int) := by rw [wsr24, w_u8, hc1]
         have v2 : IntKind.u8.wrap (W32 x / (65536 : Int)) = (c2.toNat : Int) := by rw [wsr16, w_u8, hc2]
         have v3 : IntKind.u8.wrap (W32 x / (256 : Int)) = (c3.toNat : Int) := by rw [wsr8, w_u8, hc3]
         have v4 : IntKind.u8.wrap (W32 x) = (c4.toNat : Int) := by rw [w_u8, hc4]
         have HE := hide (show r.list.flatMap w4 = (out ++ [c1, c2, c3, c4]) ++ (r.list.drop (k + 1)).flatMap w4 by
          rw [H.out, hd, List.flatMap_cons, w4, hc1, hc2, hc3, hc4, List.append_assoc])
         clear hkl hd hx hc1 hc2 hc3 hc4 H
         go_wp2_with (at_builtin; refine wpList_app RByte.ok _ rfl (.tmp 80) (.tmp 92) 43 rfl base 5 (.int .u8 0) 1 Tryd.underlying43 info_u8o rfl (by decide) No _ out rfl (hown.alloc RByte.ok (no_lt _) _) ⟨_, 0, none⟩ 4 4 [c1, c2, c3, c4] rfl rfl (news_bytes _ _ _ _ [c1, c2, c3, c4] (by simp)) (no_lt _) (by simp; omega) (by simp [maxLen]; omega) (by simp; omega) ?_; intro v7 w7 hown7 hg7 hb7 hat7; have hsz7 := hb7.size; simp at hsz7)
         go_roundw
         case rel => exact ⟨k + 1, out ++ [c1, c2, c3, c4], by omega, by simp; omega, by go_num, hown7, (hb.alloc (by omega) _).trans hb7, HE⟩
         case measure => simp [intOf]; omega
        ·have hk8 : k = 8 := by omega
         have HF := hide (show r.list.flatMap w4 = out by rw [H.out, hk8, show r.list.drop 8 = [] from rfl]; simp)
         have hconv := run_bts_str (P := Tryd.prog) wr 43 9 5 Tryd.underlying43 Tryd.underlying5 Tryd.underlying9 _ _ _ (hown.sl RByte.ok)
         go_wp2_with fail
         go_ret
         have hbw : Below w5.heap.size w5 wr := HBASE.out ▸ hb
         exact ⟨ret_str (by rw [HR2.out, HF.out]), HB5.out.trans (hbw.mono HB5.out.size)⟩
end Go.Proofs.YtmgnihmjjijdoaaDoor
