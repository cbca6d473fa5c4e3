/- The example of the chapter on extensions; the law ExtDecode, its walk. -/
import Derived.Test.YtiikpdjjhnhiiaaDoorExtO
import Derived.Test.YtiikpdjjhnhiiaaDoorLibR
namespace Go.Proofs.YtiikpdjjhnhiiaaDoor
open Go.RowKit

def x0X : Ext := ([50, 46, 53, 46, 50, 57, 46, 49, 57], true, [48, 0])
def b0X : List UInt8 := [48, 14, 48, 12, 6, 3, 85, 29, 19, 1, 1, 255, 4, 2, 48, 0]
theorem enc0X : encE [x0X] = (b0X, 0) := by decide +kernel
theorem dec0X : decE b0X = .ok [x0X] := (decE_enc enc0X).1

set_option maxRecDepth 100000 in
set_option maxHeartbeats 4000000 in
theorem xawake_any (w : World) (hmx : Mx w) (htb : Tb w) : Calls Tryd.prog 26 #[] w fun e w' => e = .returned (.bool true) ∧ Below w.heap.size w w' := by
  have HMX := hide hmx
  have HTB := hide htb
  have hsl := sl_pu (f := extC) (size := 3) (fun _ => rfl) w #[.string ⟨#[50, 46, 53, 46, 50, 57, 46, 49, 57]⟩, .bool true, .string ⟨#[48, 0]⟩] 49 [x0X] rfl (by simp [maxLen])
  have HSL := hide hsl
  have hb0 : Below w.heap.size w (w.alloc (.cells #[.string ⟨#[50, 46, 53, 46, 50, 57, 46, 49, 57]⟩, .bool true, .string ⟨#[48, 0]⟩] 49)) := (Below.refl _ _).alloc (Nat.le_refl _) _
  have HB0 := hide hb0
  obtain ⟨S, hS⟩ : ∃ S : ByteArray, S = ⟨b0X.toArray⟩ := ⟨_, rfl⟩
  have HE := hide (show wrapR (encE [x0X]) = .tuple #[.string S, .int .i64 0] by rw [enc0X, hS]; rfl)
  have HD := hide (show decE S.data.toList = .ok [x0X] by rw [hS]; exact dec0X)
  have hSs : S.size ≤ 1000000000 := by rw [hS]; decide
  have t1 : (S.toList == [48, 14, 48, 12, 6, 3, 85, 29, 19, 1, 1, 255, 4, 2, 48, 0]) = true := by rw [ByteArray.toList_eq, hS]; rfl
  clear hmx htb hsl hb0 hS
  go_enter Tryd.func26, Tryd.ntmps26
  go_wp2_with fail
  refine (EEncode_any [x0X] _ 1 _ (HMX.out.below HB0.out) HSL.out (fun x hx => by simp at hx; subst hx; decide)).mono ?_
  rintro e w1 ⟨rfl, hb1⟩
  rw [HE.out]
  have HB1 := hide (HB0.out.trans (hb1.mono HB0.out.size))
  clear hb1
  go_wp2_with fail
  refine (EDecode_any S hSs _ (HMX.out.below HB1.out) (HTB.out.below HB1.out)).mono ?_
  rintro e w2 ⟨hb2, hres⟩
  rw [HD.out] at hres
  obtain ⟨A, c, rfl, hsl2, _⟩ := hres
  have HB2 := hide (HB1.out.trans (hb2.mono HB1.out.size))
  obtain ⟨b, off, hA, _, e0, e1, e2⟩ := hsl2.extAt (i := 0) (by simp)
  subst hA
  simp only [List.getElem_cons_zero, Nat.zero_mul, Nat.add_zero] at e0 e1 e2
  have e1' : w2.cell? ⟨b, off + 1, none⟩ = some (.bool true) := e1
  have hl : ([x0X] : List Ext).length = 1 := rfl
  rw [hl]
  clear hb2 hsl2 e0 e1 e2
  go_wp2_with fail
  go_ret
  exact ⟨rfl, HB2.out⟩

/-- a row of five texts of bounded length -/
def T5 (g : Nat) (W : World) : Prop := ∀ k, k < 5 → ∃ y : ByteArray, y.size ≤ 10000000 ∧ W.cell? ⟨g, k, none⟩ = some (.string y)
theorem T5.new (w : World) (a b c d e : ByteArray) (ha : a.size ≤ 10000000) (hb : b.size ≤ 10000000) (hc : c.size ≤ 10000000) (hd : d.size ≤ 10000000) (he : e.size ≤ 10000000) : T5 w.heap.size (w.alloc (.cells #[.string a, .string b, .string c, .string d, .string e] 9)) := fun k hk => by
  rw [World.cell?_alloc_new]
  match k, hk with
  | 0, _ => exact ⟨_, ha, rfl⟩
  | 1, _ => exact ⟨_, hb, rfl⟩
  | 2, _ => exact ⟨_, hc, rfl⟩
  | 3, _ => exact ⟨_, hd, rfl⟩
  | 4, _ => exact ⟨_, he, rfl⟩
theorem T5.below {g : Nat} {W W' : World} (h : T5 g W) (hg : g < W.heap.size) (hb : Below W.heap.size W W') : T5 g W' := fun k hk => by
  obtain ⟨y, h1, h2⟩ := h k hk
  exact ⟨y, h1, (hb.cell (p := ⟨g, k, none⟩) hg).trans h2⟩
theorem small_of {l : List Ext} (h : ∀ x ∈ l, x.1.length ≤ 1000 ∧ x.2.2.length ≤ 1000) : SmallX l := fun x hx => ⟨Nat.le_trans (h x hx).1 (by decide), Nat.le_trans (h x hx).2 (by decide)⟩
theorem encE_size (l : List Ext) : (encE l).1.length ≤ 131077 := by
  unfold encE
  split
  · cases h : (encXs l).bind (wrapO 48) with
    | none => simp
    | some b =>
      obtain ⟨s, _, h2⟩ := Option.bind_eq_some_iff.1 h
      obtain ⟨hb, rfl⟩ := wrapO_some h2
      show (wrapW 48 s).length ≤ _
      rw [wrapW_len]; have := lenB_le s.length; omega
  · simp
theorem made_sl {_d : Nat} {w w' : World} {l : List Ext} {A : Option Addr} {c : Nat} (h : Sl RExt 3 w' (Btw w.heap.size w'.heap.size) l [.slice A l.length c]) : Sl RExt 3 w' (Lt w'.heap.size) l [.slice A l.length c] := (Sl.ok RExt.ok).mono h (fun _ _ => rfl) (fun _ hj => hj.2)


set_option maxRecDepth 100000 in
set_option maxHeartbeats 8000000 in
theorem ExtDecode_any (s : ByteArray) (_hsm : s.size ≤ maxLen) (l : List Int) (A : Option Addr) (n c : Nat) (u : Int) (hu : (Lit.int .u8 u).wf = true) (w : World) (hmx : Mx w) (htb : Tb w) (h : Sl RInt 1 w (Lt w.heap.size) l [.slice A n c]) :
    Calls Tryd.prog 7 #[.string s, .slice A n c, .int .u8 u] w fun e w' => e = .returned (.bool true) ∧ Below w.heap.size w w' := by
  have HMX := hide hmx
  have HTB := hide htb
  have K := hide h
  clear hmx htb h
  by_cases hs : 300 < s.size
  · go_enter Tryd.func7, Tryd.ntmps7
    go_wp2_with fail
    refine (xawake_any _ (HMX.out.below (Below.refl w.heap.size w)) (HTB.out.below (Below.refl w.heap.size w))).mono ?_
    rintro e w9 ⟨rfl, hb9⟩
    have HB9 := hide (Below.trans (Below.refl w.heap.size w) (hb9.mono (Below.size (Below.refl w.heap.size w))))
    clear hb9
    go_wp2_with fail
    go_ret
    exact ⟨rfl, HB9.out⟩
  · obtain ⟨m, hm⟩ : ∃ m : Nat, u % 5 = (m : Int) := ⟨(u % 5).toNat, by omega⟩
    have hm5 : m < 5 := by omega
    have hu0 : 0 ≤ u ∧ u ≤ 255 := by simpa [Lit.wf, IntKind.min, IntKind.max, IntKind.signed, IntKind.bits] using hu
    obtain ⟨hu1, hu2⟩ := hu0
    have hm1 : IntKind.i64.wrap ((1 : Int) + (m : Int)) = ((1 + m : Nat) : Int) := by rw [IntWalk.i64_in _ (by omega)]; omega
    have hmi : (m : Int) < 5 := by omega
    clear hu
    go_enter Tryd.func7, Tryd.ntmps7
    go_wp2_with fail
    refine (New_any l A n c _ K.out).mono ?_
    rintro e w1 ⟨rfl, hd1, hb1⟩
    have HD1 := hide hd1
    have HB1 := hide hb1
    have hz1 := hb1.size
    obtain ⟨d, hd⟩ : ∃ d, d = w.heap.size := ⟨_, rfl⟩
    rw [← hd] at HD1 ⊢
    have hdw : w.heap.size ≤ d := by omega
    clear hd1 hb1 hd
    go_wp2_with fail
    refine (listX_any d (1 + m) (by omega) _ HD1.out).mono ?_
    rintro e w2 ⟨xs, AX, cX, rfl, hsx, hslx, hd2, hx2⟩
    have HD2 := hide hd2
    have HB2 := hide (Ex.below HB1.out hz1 hdw hx2)
    have HSX := hide (made_sl (_d := d) hslx)
    have HSM := hide (small_of hsx)
    clear hd2 hx2 hslx hsx
    go_wp2_with fail
    refine (rEEncode_any xs AX cX _ HSX.out HSM.out).mono ?_
    rintro e w3 ⟨rfl, hb3⟩
    have HD3 := hide (HD2.out.below hb3)
    have HB3 := hide (HB2.out.trans (hb3.mono HB2.out.size))
    clear hb3
    have hel := encE_size xs
    obtain ⟨S, hS⟩ : ∃ S : ByteArray, S = ⟨(encE xs).1.toArray⟩ := ⟨_, rfl⟩
    have hSs : S.size ≤ 131077 := by rw [hS, ba_mk]; exact hel
    obtain ⟨kk, hkk⟩ : ∃ kk, (encE xs).2 = kk := ⟨_, rfl⟩
    rw [wrapR, ← hS, hkk]
    clear hS hkk hel
    go_wp2_with fail
    refine (Damage_any d S (by omega) _ HD3.out).mono ?_
    rintro e w4 ⟨y1, hy1, rfl, hd4, hx4⟩
    have HD4 := hide hd4
    have HB4 := hide (Ex.below HB3.out HB3.out.size hdw hx4)
    clear hd4 hx4
    go_wp2_with fail
    refine (Rewrap_any S.size d S _ (Nat.le_refl _) (by omega) HD4.out).mono ?_
    rintro e w5 ⟨y2, hy2, rfl, hd5, hx5⟩
    have HD5 := hide hd5
    have HB5 := hide (Ex.below HB4.out HB4.out.size hdw hx5)
    clear hd5 hx5
    go_wp2_with fail
    refine (Rewrap_any S.size d S _ (Nat.le_refl _) (by omega) HD5.out).mono ?_
    rintro e w6 ⟨y3, hy3, rfl, hd6, hx6⟩
    have HB6 := hide (Ex.below HB5.out HB5.out.size hdw hx6)
    clear hd6 hx6
    obtain ⟨W0, hW0⟩ : ∃ W, W = w6.alloc (.cells #[.string s, .string S, .string y1, .string y2, .string y3] 9) := ⟨_, rfl⟩
    have ht5 := T5.new w6 s S y1 y2 y3 (by omega) (by omega) (by omega) (by omega) (by omega)
    rw [← hW0] at ht5
    have HB0 := hide (show Below w.heap.size w W0 by rw [hW0]; exact HB6.out.alloc HB6.out.size _)
    have hg0 : w6.heap.size < W0.heap.size := by rw [hW0]; simp
    obtain ⟨g, hg⟩ : ∃ g, g = w6.heap.size := ⟨_, rfl⟩
    rw [← hg] at ht5 hg0
    have HT5 := hide ht5
    go_wp2_with fail
    rw [← hW0, ← hg]
    clear hW0 hg ht5
    go_loopw [45] (fun i wr => ∃ k : Nat, k ≤ 5 ∧ i = .int .i64 k ∧ Below W0.heap.size W0 wr) (fun i _ => 5 - (intOf i).toNat)
    case atStart => exact ⟨0, by omega, rfl, Below.refl _ _⟩
    case round =>
      obtain ⟨k, hk, rfl, hb⟩ := hrel
      have HB := hide (HB0.out.trans (hb.mono HB0.out.size))
      by_cases hlt : k < 5
      · obtain ⟨y, hys, hcell0⟩ := HT5.out k hlt
        have hcell := (hb.cell (p := ⟨g, k, none⟩) hg0).trans hcell0
        have HBr := hide hb
        obtain ⟨o, ho⟩ : ∃ o, decE y.data.toList = o := ⟨_, rfl⟩
        have HO := hide ho
        clear hcell0 hb ho
        go_wp2_with fail
        refine (EDecode_any y (by omega) _ (HMX.out.below HB.out) (HTB.out.below HB.out)).mono ?_
        rintro e w7 ⟨hb7, hres⟩
        rw [HO.out] at hres
        have HB7r := hide (HBr.out.trans (hb7.mono HBr.out.size))
        have HB7 := hide (HB0.out.trans (HB7r.out.mono HB0.out.size))
        clear hb7 hcell
        cases o with
        | error k1 =>
          obtain rfl : e = _ := hres
          go_wp2_with fail
          refine (rEDecode_any y (by omega) _ (HTB.out.below HB7.out)).mono ?_
          rintro e w8 ⟨hb8, hres⟩
          rw [HO.out] at hres
          obtain rfl : e = _ := hres
          have HB8r := hide (HB7r.out.trans (hb8.mono HB7r.out.size))
          clear hb8
          go_wp2_with fail
          refine (Same_same [] none none 0 0 _ (Sl.nil _ _ _ _) (Sl.nil _ _ _ _)).mono ?_
          rintro e w9 ⟨rfl, hb9⟩
          have HB9r := hide (HB8r.out.trans (hb9.mono HB8r.out.size))
          have t9 : (k1 != k1) = false := by simp
          clear hb9
          go_wp2_with fail
          go_roundw
          case rel => exact ⟨k + 1, by omega, by go_num, HB9r.out⟩
          case measure => simp [intOf]; omega
        | ok xs7 =>
          obtain ⟨A7, c7, rfl, hsl7, _⟩ := hres
          have HSL7 := hide hsl7
          clear hsl7
          go_wp2_with fail
          refine (rEDecode_any y (by omega) _ (HTB.out.below HB7.out)).mono ?_
          rintro e w8 ⟨hb8, hres⟩
          rw [HO.out] at hres
          obtain ⟨A8, c8, rfl, hsl8, _⟩ := hres
          have HB8r := hide (HB7r.out.trans (hb8.mono HB7r.out.size))
          have HSL8 := hide hsl8
          have HSL78 := hide ((Sl.ok RExt.ok).mono HSL7.out (fun j hj => hb8.block j hj) (S' := Lt w8.heap.size) (fun j hj => Nat.lt_of_lt_of_le hj hb8.size))
          clear hb8 hsl8
          go_wp2_with fail
          refine (Same_same xs7 A7 A8 c7 c8 _ HSL78.out HSL8.out).mono ?_
          rintro e w9 ⟨rfl, hb9⟩
          have HB9r := hide (HB8r.out.trans (hb9.mono HB8r.out.size))
          clear hb9
          go_wp2_with fail
          go_roundw
          case rel => exact ⟨k + 1, by omega, by go_num, HB9r.out⟩
          case measure => simp [intOf]; omega
      · clear hb
        go_wp2_with fail
        refine (xawake_any _ (HMX.out.below HB.out) (HTB.out.below HB.out)).mono ?_
        rintro e w9 ⟨rfl, hb9⟩
        have HB9 := hide (Below.trans HB.out (hb9.mono (Below.size HB.out)))
        clear hb9
        go_wp2_with fail
        go_ret
        exact ⟨rfl, HB9.out⟩
end Go.Proofs.YtiikpdjjhnhiiaaDoor
