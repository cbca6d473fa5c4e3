/- The law ExtCheck, its walk. -/
import Derived.Test.YtiikpdjjhnhiiaaDoorExtQ
namespace Go.Proofs.YtiikpdjjhnhiiaaDoor
open Go.RowKit

theorem findR_form (o : Option Ext) : ∃ (a : ByteArray) (k : Bool) (v : ByteArray) (B : Bool), findR o = .tuple #[.agg #[.string a, .bool k, .string v], .bool B] := by
  cases o with
  | none => exact ⟨_, _, _, _, rfl⟩
  | some x => exact ⟨_, _, _, _, rfl⟩
/-- a row of two slices of extensions -/
def R2 (g : Nat) (W : World) : Prop := ∀ k, k < 2 → ∃ (l : List Ext) (A : Option Addr) (c : Nat), W.cell? ⟨g, k, none⟩ = some (.slice A l.length c) ∧ Sl RExt 3 W (Lt W.heap.size) l [.slice A l.length c] ∧ SmallX l ∧ l.length ≤ 1000000
theorem R2.new (w : World) (l m : List Ext) (A B : Option Addr) (c d : Nat) (h1 : Sl RExt 3 w (Lt w.heap.size) l [.slice A l.length c]) (h2 : Sl RExt 3 w (Lt w.heap.size) m [.slice B m.length d])
    (s1 : SmallX l) (s2 : SmallX m) (n1 : l.length ≤ 1000000) (n2 : m.length ≤ 1000000) : R2 w.heap.size (w.alloc (.cells #[.slice A l.length c, .slice B m.length d] 50)) := fun k hk => by
  rw [World.cell?_alloc_new]
  have hb : Below w.heap.size w (w.alloc (.cells #[.slice A l.length c, .slice B m.length d] 50)) := (Below.refl _ _).alloc (Nat.le_refl _) _
  match k, hk with
  | 0, _ => exact ⟨_, _, _, rfl, (Sl.ok RExt.ok).mono h1 (fun j hj => hb.block j hj) (fun j hj => Nat.lt_of_lt_of_le hj hb.size), s1, n1⟩
  | 1, _ => exact ⟨_, _, _, rfl, (Sl.ok RExt.ok).mono h2 (fun j hj => hb.block j hj) (fun j hj => Nat.lt_of_lt_of_le hj hb.size), s2, n2⟩


set_option maxRecDepth 100000 in
set_option maxHeartbeats 8000000 in
/-- the three finds of one round -/
theorem ExtCheck_any (l0 : List Ext) (A0 : Option Addr) (c0 : Nat) (l : List Int) (A : Option Addr) (n c : Nat) (u : Int) (hu : (Lit.int .u8 u).wf = true) (id : ByteArray) (_hid : id.size ≤ maxLen) (w : World) (hmx : Mx w) (htb : Tb w)
    (h0 : Sl RExt 3 w (Lt w.heap.size) l0 [.slice A0 l0.length c0]) (h : Sl RInt 1 w (Lt w.heap.size) l [.slice A n c]) :
    Calls Tryd.prog 9 #[.slice A0 l0.length c0, .slice A n c, .int .u8 u, .string id] w fun e w' => e = .returned (.bool true) ∧ Below w.heap.size w w' := by
  have HMX := hide hmx
  have HTB := hide htb
  have K := hide h
  have K0 := hide h0
  obtain ⟨m, hm⟩ : ∃ m : Nat, u % 28 = (m : Int) := ⟨(u % 28).toNat, by omega⟩
  have hm5 : m < 28 := by omega
  have hu0 : 0 ≤ u ∧ u ≤ 255 := by simpa [Lit.wf, IntKind.min, IntKind.max, IntKind.signed, IntKind.bits] using hu
  obtain ⟨hu1, hu2⟩ := hu0
  have hmi : (m : Int) < 28 := by omega
  clear hmx htb h h0 hu
  go_enter Tryd.func9, Tryd.ntmps9
  go_wp2_with fail
  refine (Short_any l0 A0 c0 _ K0.out).mono ?_
  rintro e w1 ⟨b, rfl, hsh, hb1⟩
  have HB1 := hide hb1
  clear hb1
  cases b with
  | false =>
    clear hsh
    go_wp2_with fail
    refine (xawake_any _ (HMX.out.below HB1.out) (HTB.out.below HB1.out)).mono ?_
    rintro e w9 ⟨rfl, hb9⟩
    have HB9 := hide (Below.trans HB1.out (hb9.mono (Below.size HB1.out)))
    clear hb9
    go_wp2_with fail
    go_ret
    exact ⟨rfl, HB9.out⟩
  | true =>
    obtain ⟨hsm0, hl30⟩ := hsh rfl
    have HSM0 := hide hsm0
    clear hsm0 hsh
    by_cases hi : 100 < id.size
    · go_wp2_with fail
      refine (xawake_any _ (HMX.out.below HB1.out) (HTB.out.below HB1.out)).mono ?_
      rintro e w9 ⟨rfl, hb9⟩
      have HB9 := hide (Below.trans HB1.out (hb9.mono (Below.size HB1.out)))
      clear hb9
      go_wp2_with fail
      go_ret
      exact ⟨rfl, HB9.out⟩
    · have K1 := hide ((Sl.ok RInt.ok).mono K.out (fun j hj => HB1.out.block j hj) (S' := Lt w1.heap.size) (fun j hj => Nat.lt_of_lt_of_le hj HB1.out.size))
      go_wp2_with fail
      refine (New_any l A n c _ K1.out).mono ?_
      rintro e w2 ⟨rfl, hd2, hb2⟩
      have HD2 := hide hd2
      have HB2 := hide (HB1.out.trans (hb2.mono HB1.out.size))
      have hz1 := HB1.out.size
      have hz2 := hb2.size
      obtain ⟨d, hd⟩ : ∃ d, d = w1.heap.size := ⟨_, rfl⟩
      rw [← hd] at HD2 ⊢
      have hdw : w.heap.size ≤ d := by omega
      clear hd2 hb2 hd
      go_wp2_with fail
      refine (listN_any d m (by omega) _ HD2.out).mono ?_
      rintro e w3 ⟨⟨xs, AX, cX, rfl, hsx, hslx, hd3, hx3⟩, hxl⟩
      have hxn := hxl _ _ _ rfl
      have HB3 := hide (Ex.below HB2.out HB2.out.size hdw hx3)
      have HSX := hide (made_sl (_d := d) hslx)
      have HSM := hide (small_of hsx)
      have HS0 := hide ((Sl.ok RExt.ok).mono K0.out (fun j hj => HB3.out.block j hj) (S' := Lt w3.heap.size) (fun j hj => Nat.lt_of_lt_of_le hj HB3.out.size))
      clear hd3 hx3 hslx hsx hxl
      obtain ⟨W0, hW0⟩ : ∃ W, W = w3.alloc (.cells #[.slice A0 l0.length c0, .slice AX xs.length cX] 50) := ⟨_, rfl⟩
      have hr2 := R2.new w3 l0 xs A0 AX c0 cX HS0.out HSX.out HSM0.out HSM.out (by omega) (by omega)
      rw [← hW0] at hr2
      have HB0 := hide (show Below w.heap.size w W0 by rw [hW0]; exact HB3.out.alloc HB3.out.size _)
      have hg0 : w3.heap.size < W0.heap.size := by rw [hW0]; simp
      obtain ⟨g, hg⟩ : ∃ g, g = w3.heap.size := ⟨_, rfl⟩
      rw [← hg] at hr2 hg0
      have HR2 := hide hr2
      go_wp2_with fail
      rw [← hW0, ← hg]
      clear hW0 hg hr2
      go_loopw [41] (fun i wr => ∃ k : Nat, k ≤ 2 ∧ i = .int .i64 k ∧ Below W0.heap.size W0 wr) (fun i _ => 2 - (intOf i).toNat)
      case atStart => exact ⟨0, by omega, rfl, Below.refl _ _⟩
      case round =>
        obtain ⟨k, hk, rfl, hb⟩ := hrel
        have HB := hide (HB0.out.trans (hb.mono HB0.out.size))
        by_cases hlt : k < 2
        · obtain ⟨ys, AY, cY, hcell0, hsy, hsmy, hny⟩ := HR2.out k hlt
          have hcell := (hb.cell (p := ⟨g, k, none⟩) hg0).trans hcell0
          have HBr := hide hb
          have HSY := hide ((Sl.ok RExt.ok).mono hsy (fun j hj => hb.block j hj) (S' := Lt wr.heap.size) (fun j hj => Nat.lt_of_lt_of_le hj hb.size))
          have HSMY := hide hsmy
          clear hcell0 hb hsy hsmy
          go_wp2_with fail
          refine (EEncode_any ys AY cY _ (HMX.out.below HB.out) HSY.out HSMY.out).mono ?_
          rintro e w5 ⟨rfl, hb5⟩
          have HB5r := hide (HBr.out.trans (hb5.mono HBr.out.size))
          have HB5 := hide (HB0.out.trans (HB5r.out.mono HB0.out.size))
          have HSY5 := hide ((Sl.ok RExt.ok).mono HSY.out (fun j hj => hb5.block j hj) (S' := Lt w5.heap.size) (fun j hj => Nat.lt_of_lt_of_le hj hb5.size))
          clear hb5 hcell
          obtain ⟨S, hS⟩ : ∃ S : ByteArray, S = ⟨(encE ys).1.toArray⟩ := ⟨_, rfl⟩
          obtain ⟨q, hq⟩ : ∃ q, (encE ys).2 = q := ⟨_, rfl⟩
          have HW := hide (show wrapR (encE ys) = .tuple #[.string S, .int .i64 q] by rw [wrapR, hS, hq])
          rw [HW.out]
          clear hS hq
          go_wp2_with fail
          refine (rEEncode_any ys AY cY _ HSY5.out HSMY.out).mono ?_
          rintro e w6 ⟨rfl, hb6⟩
          rw [HW.out]
          have HB6r := hide (HB5r.out.trans (hb6.mono HB5r.out.size))
          have HB6 := hide (HB0.out.trans (HB6r.out.mono HB0.out.size))
          have HSY6 := hide ((Sl.ok RExt.ok).mono HSY5.out (fun j hj => hb6.block j hj) (S' := Lt w6.heap.size) (fun j hj => Nat.lt_of_lt_of_le hj hb6.size))
          clear hb6
          obtain ⟨p, hp⟩ : ∃ p, chkE ys = p := ⟨_, rfl⟩
          have HP := hide hp
          clear hp
          go_wp2_with fail
          refine (echk_q ys p HP.out AY cY _ (HMX.out.below HB6.out) HSY6.out HSMY.out).mono ?_
          rintro e w7 ⟨rfl, hb7⟩
          have HB7r := hide (HB6r.out.trans (hb7.mono HB6r.out.size))
          have HB7 := hide (HB0.out.trans (HB7r.out.mono HB0.out.size))
          have HSY7 := hide ((Sl.ok RExt.ok).mono HSY6.out (fun j hj => hb7.block j hj) (S' := Lt w7.heap.size) (fun j hj => Nat.lt_of_lt_of_le hj hb7.size))
          clear hb7
          go_wp2_with fail
          refine (rechk_v ys p HP.out AY cY _ HSY7.out HSMY.out).mono ?_
          rintro e w8 ⟨rfl, hb8⟩
          have HB8r := hide (HB7r.out.trans (hb8.mono HB7r.out.size))
          have HB8 := hide (HB0.out.trans (HB8r.out.mono HB0.out.size))
          have HSY8 := hide ((Sl.ok RExt.ok).mono HSY7.out (fun j hj => hb8.block j hj) (S' := Lt w8.heap.size) (fun j hj => Nat.lt_of_lt_of_le hj hb8.size))
          clear hb8
          have t1 : (p != p) = false := by simp
          have t2 : (q != q) = false := by simp
          obtain ⟨V0, hV0⟩ : ∃ W, W = w8.alloc (.cells #[.string id, .string ⟨#[49, 46, 50, 46, 51, 46, 48]⟩, .string ⟨#[49, 46, 50, 46, 51, 46, 53]⟩] 9) := ⟨_, rfl⟩
          have htab : ∀ q, q < 3 → ∃ vv : ByteArray, V0.cell? ⟨w8.heap.size, q, none⟩ = some (.string vv) := fun q hq => by
            rw [hV0, World.cell?_alloc_new]
            match q, hq with
            | 0, _ => exact ⟨_, rfl⟩
            | 1, _ => exact ⟨_, rfl⟩
            | 2, _ => exact ⟨_, rfl⟩
          have HV0r := hide (show Below W0.heap.size W0 V0 by rw [hV0]; exact HB8r.out.alloc HB8r.out.size _)
          have hbv : Below w8.heap.size w8 V0 := by rw [hV0]; exact (Below.refl _ _).alloc (Nat.le_refl _) _
          have HSV := hide ((Sl.ok RExt.ok).mono HSY8.out (fun j hj => hbv.block j hj) (S' := Lt V0.heap.size) (fun j hj => Nat.lt_of_lt_of_le hj hbv.size))
          have hgv : w8.heap.size < V0.heap.size := by rw [hV0]; simp
          obtain ⟨gv, hgv0⟩ : ∃ g, g = w8.heap.size := ⟨_, rfl⟩
          rw [← hgv0] at htab hgv
          have HTAB := hide htab
          go_wp2_with fail
          rw [← hV0, ← hgv0]
          clear hV0 hgv0 htab hbv t1 t2
          go_loopw [73] (fun i wr => ∃ j : Nat, j ≤ 3 ∧ i = .int .i64 j ∧ Below V0.heap.size V0 wr) (fun i _ => 3 - (intOf i).toNat)
          case atStart => exact ⟨0, by omega, rfl, Below.refl _ _⟩
          case round =>
            obtain ⟨j, hj, rfl, hb⟩ := hrel
            by_cases hjt : j < 3
            · obtain ⟨vv, hcell0⟩ := HTAB.out j hjt
              have hcell := (hb.cell (p := ⟨gv, j, none⟩) hgv).trans hcell0
              have HBj := hide hb
              have HSJ := hide ((Sl.ok RExt.ok).mono HSV.out (fun i hi => hb.block i hi) (S' := Lt wr.heap.size) (fun i hi => Nat.lt_of_lt_of_le hi hb.size))
              obtain ⟨fa, fk, fv, fB, hfr⟩ := findR_form (findF ys vv.data.toList)
              have HFR := hide hfr
              have hVz := hb.size
              clear hcell0 hb hfr
              go_wp2_with fail
              refine (Find_any ys vv AY cY _ HSJ.out HSMY.out hny).mono ?_
              rintro e x1 ⟨rfl, hb1⟩
              rw [HFR.out]
              have HX1 := hide (HBj.out.trans (hb1.mono HBj.out.size))
              have HSX1 := hide ((Sl.ok RExt.ok).mono HSJ.out (fun j hj => hb1.block j hj) (S' := Lt x1.heap.size) (fun j hj => Nat.lt_of_lt_of_le hj hb1.size))
              have hxz1 := HX1.out.size
              clear hb1 hcell
              go_upto_region 15 with fail
              obtain ⟨x2, hx2⟩ : ∃ W, W = x1.alloc (.cells #[.string fa, .bool fk, .string fv] 49) := ⟨_, rfl⟩
              have hxb := XB.new x1 fa fv fk
              have hbx2 : Below x1.heap.size x1 x2 := by rw [hx2]; exact (Below.refl _ _).alloc (Nat.le_refl _) _
              rw [← hx2] at hxb ⊢
              have HX2 := hide (HX1.out.trans (hbx2.mono HX1.out.size))
              have HSX2 := hide ((Sl.ok RExt.ok).mono HSX1.out (fun j hj => hbx2.block j hj) (S' := Lt x2.heap.size) (fun j hj => Nat.lt_of_lt_of_le hj hbx2.size))
              obtain ⟨g1, hg1⟩ : ∃ g, g = x1.heap.size := ⟨_, rfl⟩
              rw [← hg1] at hxb ⊢
              have HXB := hide hxb
              clear hx2 hbx2 hg1 hxb
              go_wp2_with fail
              refine (rFind_any ys vv AY cY _ HSX2.out).mono ?_
              rintro e x3 ⟨rfl, hb3⟩
              rw [HFR.out]
              have HX3 := hide (HX2.out.trans (hb3.mono HX2.out.size))
              have hxb3 := HXB.out.below hb3
              clear hb3
              go_upto_region 16 with fail
              obtain ⟨x4, hx4⟩ : ∃ W, W = x3.alloc (.cells #[.string fa, .bool fk, .string fv] 49) := ⟨_, rfl⟩
              have hyb := XB.new x3 fa fv fk
              have hbx4 : Below x3.heap.size x3 x4 := by rw [hx4]; exact (Below.refl _ _).alloc (Nat.le_refl _) _
              rw [← hx4] at hyb ⊢
              have HX4 := hide (HX3.out.trans (hbx4.mono HX3.out.size))
              have hxb4 := hxb3.below hbx4
              obtain ⟨g2, hg2⟩ : ∃ g, g = x3.heap.size := ⟨_, rfl⟩
              rw [← hg2] at hyb ⊢
              clear hx4 hbx4 hg2 hxb3
              obtain ⟨p0, p1, p2, -, -, -⟩ := hxb4.facts
              obtain ⟨q0, q1, q2, -, -, -⟩ := hyb.facts
              have hneq := neq_ext fa fv fk
              have t4 : (fB != fB) = false := by simp
              clear hxb4 hyb
              go_wp2_with fail
              go_roundw
              case rel => exact ⟨j + 1, by omega, by go_num, HX4.out⟩
              case measure => simp [intOf]; omega
            · have HZr := hide (HV0r.out.trans (hb.mono HV0r.out.size))
              clear hb
              go_wp2_with fail
              go_roundw
              case rel => exact ⟨k + 1, by omega, by go_num, HZr.out⟩
              case measure => simp [intOf]; omega
        · clear hb
          go_wp2_with fail
          refine (xawake_any _ (HMX.out.below HB.out) (HTB.out.below HB.out)).mono ?_
          rintro e w9 ⟨rfl, hb9⟩
          have HB9 := hide (Below.trans HB.out (hb9.mono (Below.size HB.out)))
          clear hb9
          go_wp2_with fail
          go_ret
          exact ⟨rfl, HB9.out⟩
end Go.Proofs.YtiikpdjjhnhiiaaDoor
