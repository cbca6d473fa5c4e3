/- ext.encodeOne. -/
import Derived.Test.YtiikpdjjhnhiiaaDoorExtC
import Derived.Test.YtiikpdjjhnhiiaaDoorOid1
namespace Go.Proofs.YtiikpdjjhnhiiaaDoor
open Go.RowKit

def encXR : Option (List UInt8) → Value
  | none => .tuple #[.string ⟨#[]⟩, .int .i64 6]
  | some b => .tuple #[.string ⟨b.toArray⟩, .int .i64 0]
/-- a block of three texts -/
def P3 (g : Nat) (a b c : ByteArray) (W : World) : Prop := W.heap[g]? = some (.cells #[.string a, .string b, .string c] 9 (0, 0))
theorem P3.lt {g : Nat} {a b c : ByteArray} {W : World} (h : P3 g a b c W) : g < W.heap.size := (Array.getElem?_eq_some_iff.1 h).1
theorem P3.below {g : Nat} {a b c : ByteArray} {W W' : World} (h : P3 g a b c W) (hb : Below W.heap.size W W') : P3 g a b c W' := (hb.block g h.lt).trans h
theorem P3.facts {g : Nat} {a b c : ByteArray} {W : World} (h : P3 g a b c W) : W.cell? ⟨g, 0, none⟩ = some (.string a) ∧ W.cell? ⟨g, 1, none⟩ = some (.string b) ∧ W.cell? ⟨g, 2, none⟩ = some (.string c) ∧ W.frozen? ⟨g, 0, none⟩ = false ∧ W.frozen? ⟨g, 1, none⟩ = false ∧ W.frozen? ⟨g, 2, none⟩ = false := by
  unfold P3 at h
  simp [World.cell?, World.frozen?, h]
theorem P3.st0 {g : Nat} {a b c : ByteArray} {W : World} (h : P3 g a b c W) (x : ByteArray) : P3 g x b c (W.setCell ⟨g, 0, none⟩ (.string x)) := by
  unfold P3 at *
  simp [World.setCell, Array.getElem?_modify, h]
theorem P3.st1 {g : Nat} {a b c : ByteArray} {W : World} (h : P3 g a b c W) (x : ByteArray) : P3 g a x c (W.setCell ⟨g, 1, none⟩ (.string x)) := by
  unfold P3 at *
  simp [World.setCell, Array.getElem?_modify, h]
theorem P3.st2 {g : Nat} {a b c : ByteArray} {W : World} (h : P3 g a b c W) (x : ByteArray) : P3 g a b x (W.setCell ⟨g, 2, none⟩ (.string x)) := by
  unfold P3 at *
  simp [World.setCell, Array.getElem?_modify, h]
theorem P3.sl {g : Nat} {a b c : ByteArray} {W : World} (h : P3 g a b c W) : Sl RStr 1 W (Lt W.heap.size) [a.data.toList, b.data.toList, c.data.toList] [.slice (some ⟨g, 0, none⟩) 3 3] := by
  obtain ⟨h0, h1, h2, _⟩ := h.facts
  refine ⟨_, 3, rfl, Nat.le_refl _, by simp [maxLen], fun _ => ⟨g, 0, rfl, h.lt, fun i x hx => ⟨strC x, rfl, fun j u hu => ?_⟩⟩⟩
  match j, hu with
  | 0, hu =>
    simp [strC] at hu; subst hu
    match i, hx with
    | 0, hx => simp at hx; subst hx; simpa using h0
    | 1, hx => simp at hx; subst hx; simpa using h1
    | 2, hx => simp at hx; subst hx; simpa using h2
/-- Wrap of one text that has just been laid -/
theorem wrap_one (t : Nat) (ht : t < 256) (ht31 : t % 32 ≠ 31) (x : ByteArray) (hx : x.size ≤ 1000000) (r : List UInt8 × Int) (hr : wrapF t [x.data.toList] = r) (w : World) :
    Calls Tryd.prog 60 #[.int .i64 (t : Int), .slice (some ⟨w.heap.size, 0, none⟩) 1 1] (w.alloc (.cells #[.string x] 9)) fun e w' => e = .returned (wrapR r) ∧ Below w.heap.size w w' := by
  have hsl := sl_pu (f := strC) (size := 1) (fun _ => rfl) w #[.string x] 9 [x.data.toList] rfl (by simp [maxLen])
  refine (hr ▸ Wrap_any t ht ht31 [x.data.toList] _ 1 (by simp) (fun y hy => by simp at hy; subst hy; rw [size_string]; omega) _ hsl).mono ?_
  rintro e w' ⟨he, hb⟩
  exact ⟨he, ((Below.refl _ _).alloc (Nat.le_refl _) _).trans (hb.mono (by simp))⟩
theorem wrapF_one {t : Nat} {x : ByteArray} (h : x.size ≤ 131072) : wrapF t [x.data.toList] = (wrapW t x.data.toList, 0) := by
  rw [wrapF]
  simp only [List.flatten_cons, List.flatten_nil, List.append_nil, size_string]
  rw [if_neg (by omega)]
theorem wrapF_big {t : Nat} {x : ByteArray} (h : 131072 < x.size) : wrapF t [x.data.toList] = ([], 6) := by
  rw [wrapF]
  simp only [List.flatten_cons, List.flatten_nil, List.append_nil, size_string]
  rw [if_pos h]

set_option maxHeartbeats 400000 in
theorem putB_any (w : World) : Calls Tryd.prog 89 #[.bool true] w fun e w' => e = .returned (.string ⟨#[255]⟩) ∧ w = w' := by
  go_enter Tryd.func89, Tryd.ntmps89
  go_wp2_with fail
  go_ret
  exact ⟨rfl, rfl⟩

def encF : Option (List UInt8) → List UInt8 × Int
  | none => ([], 6)
  | some b => (b, 0)
theorem encF_three (a b c : List UInt8) : wrapF 48 [a, b, c] = encF (wrapO 48 (a ++ (b ++ c))) := by
  rw [wrapF, wrapO]
  have e : [a, b, c].flatten = a ++ (b ++ c) := by simp
  rw [e]
  split <;> rfl


set_option maxRecDepth 100000 in
set_option maxHeartbeats 8000000 in
theorem encOne_any (id va : ByteArray) (cr : Bool) (hid : id.size ≤ 1000000) (hva : va.size ≤ 1000000) (hval : validB id.data.toList = true) (w : World) (hmx : Mx w) :
    Calls Tryd.prog 64 #[.agg #[.string id, .bool cr, .string va]] w fun e w' => e = .returned (encXR (encX (id.data.toList, cr, va.data.toList))) ∧ Below w.heap.size w w' := by
  obtain ⟨r, hr⟩ : ∃ r, encX (id.data.toList, cr, va.data.toList) = r := ⟨_, rfl⟩
  rw [hr]
  have HX := hide (show r = (wrapO 4 va.data.toList).bind fun v => wrapO 48 (bodyX (id.data.toList, cr, va.data.toList) v) from hr.symm)
  obtain ⟨ci, hci, hcil⟩ := encP_valid hval
  obtain ⟨xi, hxi⟩ : ∃ x : ByteArray, x = ⟨ci.toArray⟩ := ⟨_, rfl⟩
  have hxis : xi.size ≤ 1000 := by rw [hxi, ba_mk]; exact hcil
  have HE := hide (show encR (encP id.data.toList) = .tuple #[.string xi, .int .i64 0] by rw [hci, hxi]; rfl)
  have hwi := wrapF_one (t := 6) (x := xi) (by omega)
  obtain ⟨yi, hyi⟩ : ∃ y : ByteArray, y = ⟨(wrapW 6 xi.data.toList).toArray⟩ := ⟨_, rfl⟩
  have hyis : yi.size ≤ 1010 := by
    rw [hyi, ba_mk, wrapW_len, size_string]
    have := lenB_le xi.size
    omega
  have HYI := hide (show idW id.data.toList = yi.data.toList by rw [idW, hci, hyi, hxi]; rfl)
  have HMX := hide hmx
  obtain ⟨w0, hw0⟩ : ∃ W, W = w.alloc (.cells #[.string id, .bool cr, .string va] 49) := ⟨_, rfl⟩
  have n0 : w0.cell? ⟨w.heap.size, 0, none⟩ = some (.string id) := by rw [hw0, World.cell?_alloc_new]; rfl
  have n1 : w0.cell? ⟨w.heap.size, 1, none⟩ = some (.bool cr) := by rw [hw0, World.cell?_alloc_new]; rfl
  have n2 : w0.cell? ⟨w.heap.size, 2, none⟩ = some (.string va) := by rw [hw0, World.cell?_alloc_new]; rfl
  have HB0 := hide (show Below w.heap.size w w0 by rw [hw0]; exact (Below.refl _ _).alloc (Nat.le_refl _) _)
  have hz0 : w.heap.size < w0.heap.size := by rw [hw0]; simp
  clear hr hci hcil hxi hmx hval
  have hmk : ∀ W : World, (Instr.makeSlice 33 (.int .i64 3) (.int .i64 3)).run Tryd.prog W = .ok (.slice (some ⟨W.heap.size, 0, none⟩) 3 3) (W.alloc (.cells #[.string ⟨#[]⟩, .string ⟨#[]⟩, .string ⟨#[]⟩] 9)) := fun _ => by kernel_rfl
  go_enter Tryd.func64, Tryd.ntmps64
  go_upto_region 1 with fail
  rw [← hw0]
  clear hw0
  go_wp2_with fail
  refine (Encode_any id hid _ (HMX.out.below HB0.out)).mono ?_
  rintro e w1 ⟨rfl, hb1⟩
  rw [HE.out]
  have m1 := (hb1.cell (p := ⟨w.heap.size, 1, none⟩) hz0).trans n1
  have m2 := (hb1.cell (p := ⟨w.heap.size, 2, none⟩) hz0).trans n2
  have HB1 := hide (HB0.out.trans (hb1.mono HB0.out.size))
  have hz1 := Nat.lt_of_lt_of_le hz0 hb1.size
  clear hb1 n0 n1 n2 hz0
  go_upto_region 5 with fail
  obtain ⟨w2, hw2⟩ : ∃ W, W = w1.alloc (.cells #[.string ⟨#[]⟩, .string ⟨#[]⟩, .string ⟨#[]⟩] 9) := ⟨_, rfl⟩
  obtain ⟨E, hE⟩ : ∃ E : ByteArray, E = ⟨#[]⟩ := ⟨_, rfl⟩
  have HP2 := hide (show P3 w1.heap.size E E E w2 by rw [hw2, hE]; exact heap_alloc_new w1 _)
  have hb2 : Below w1.heap.size w1 w2 := by rw [hw2]; exact (Below.refl _ _).alloc (Nat.le_refl _) _
  have k1 := (hb2.cell (p := ⟨w.heap.size, 1, none⟩) hz1).trans m1
  have k2 := (hb2.cell (p := ⟨w.heap.size, 2, none⟩) hz1).trans m2
  have HB2 := hide (HB1.out.trans (hb2.mono HB1.out.size))
  have hz2 := Nat.lt_of_lt_of_le hz1 hb2.size
  obtain ⟨gp, hgp⟩ : ∃ g, g = w1.heap.size := ⟨_, rfl⟩
  have hgpw : w.heap.size ≤ gp := by omega
  have hgpn : gp ≠ w.heap.size := by omega
  rw [← hgp] at HP2
  rw [← hw2, ← hgp]
  clear hw2 hb2 m1 m2 hgp hmk hz1
  go_wp2_with fail
  refine (wrap_one 6 (by omega) (by omega) xi (by omega) _ hwi _).mono ?_
  rintro e w3 ⟨rfl, hb3⟩
  rw [wrapR, ← hyi]
  have HP3 := hide (HP2.out.below hb3)
  have j1 := (hb3.cell (p := ⟨w.heap.size, 1, none⟩) hz2).trans k1
  have j2 := (hb3.cell (p := ⟨w.heap.size, 2, none⟩) hz2).trans k2
  have HB3 := hide (HB2.out.trans (hb3.mono HB2.out.size))
  have hz3 := Nat.lt_of_lt_of_le hz2 hb3.size
  obtain ⟨c0, c1, c2, f0, f1, f2⟩ := HP3.out.facts
  clear hb3 k1 k2 hyi hwi hz2
  go_upto_region 8 with fail
  obtain ⟨w4, hw4⟩ : ∃ W, W = w3.setCell ⟨gp, 0, none⟩ (.string yi) := ⟨_, rfl⟩
  have HP4 := hide (show P3 gp yi E E w4 by rw [hw4]; exact HP3.out.st0 yi)
  have HB4 := hide (show Below w.heap.size w w4 by rw [hw4]; exact HB3.out.setCell (p := ⟨gp, 0, none⟩) hgpw _)
  have hk4 := Below.heap_setCell w3 ⟨gp, 0, none⟩ (.string yi) w.heap.size (fun e => hgpn e.symm)
  rw [← hw4] at hk4
  have i1 := (World.cell?_of_block (w := w3) (a := ⟨w.heap.size, 1, none⟩) hk4).trans j1
  have i2 := (World.cell?_of_block (w := w3) (a := ⟨w.heap.size, 2, none⟩) hk4).trans j2
  have hz4 : w.heap.size < w4.heap.size := by rw [hw4, World.size_setCell]; exact hz3
  rw [← hw4]
  clear hw4 c0 c1 c2 f0 f1 f2 j1 j2 hz3 hk4
  cases cr
  · have hE0 : E.size ≤ 10 := by rw [hE]; decide
    have HEc := hide (show critB false = E.data.toList by rw [hE]; rfl)
    clear hE
    have HP3 := HP4
    have HB3 := HB4
    by_cases hv : 131072 < va.size
    · have HN := hide (show r = none by rw [HX.out, wrapO, if_pos (by rw [size_string]; exact hv)]; rfl)
      obtain rfl := HN.out
      have hwr := wrapF_big (t := 4) hv
      clear hv
      go_wp2_with fail
      refine (wrap_one 4 (by omega) (by omega) va hva _ hwr _).mono ?_
      rintro e w5 ⟨rfl, hb5⟩
      rw [wrapR]
      have HP5 := hide (HP3.out.below hb5)
      have HB5 := hide (HB3.out.trans (hb5.mono HB3.out.size))
      obtain ⟨c0, c1, c2, f0, f1, f2⟩ := HP5.out.facts
      clear hb5
      go_wp2_with fail
      go_ret2
      exact ⟨rfl, HB5.out.setCell (p := ⟨gp, 2, none⟩) hgpw _⟩
    · have hwr := wrapF_one (t := 4) (x := va) (by omega)
      have hwl := wrapW_len 4 va.data.toList
      have hlb := lenB_le va.data.toList.length
      rw [size_string] at hwl hlb
      obtain ⟨yv, hyv⟩ : ∃ y : ByteArray, y = ⟨(wrapW 4 va.data.toList).toArray⟩ := ⟨_, rfl⟩
      have hyvs : yv.size ≤ 131077 := by rw [hyv, ba_mk]; omega
      have e4 : wrapO 4 va.data.toList = some (wrapW 4 va.data.toList) := wrapO_of (by rw [size_string]; omega)
      have HF := hide (show wrapF 48 [yi.data.toList, ByteArray.data E |>.toList, yv.data.toList] = encF r by
        rw [encF_three, HX.out, e4, Option.bind_some, bodyX, HYI.out, hyv, HEc.out])
      clear e4
      clear hv hwl hlb
      go_wp2_with fail
      refine (wrap_one 4 (by omega) (by omega) va hva _ hwr _).mono ?_
      rintro e w5 ⟨rfl, hb5⟩
      rw [wrapR, ← hyv]
      have HP5 := hide (HP3.out.below hb5)
      have HB5 := hide (HB3.out.trans (hb5.mono HB3.out.size))
      obtain ⟨c0, c1, c2, f0, f1, f2⟩ := HP5.out.facts
      clear hb5 hyv hwr
      go_upto_region 15 with fail
      obtain ⟨w6, hw6⟩ : ∃ W, W = w5.setCell ⟨gp, 2, none⟩ (.string yv) := ⟨_, rfl⟩
      have HP6 := hide (show P3 gp yi E yv w6 by rw [hw6]; exact HP5.out.st2 yv)
      have HB6 := hide (show Below w.heap.size w w6 by rw [hw6]; exact HB5.out.setCell (p := ⟨gp, 2, none⟩) hgpw _)
      rw [← hw6]
      clear hw6 c0 c1 c2 f0 f1 f2
      have hsl := (HP6.out).sl
      have HSL := hide hsl
      clear hsl
      go_wp2_with fail
      refine (Wrap_any 48 (by omega) (by omega) [yi.data.toList, ByteArray.data E |>.toList, yv.data.toList] _ 3 (by simp) (fun y hy => by simp at hy; rcases hy with rfl | rfl | rfl <;> (rw [size_string]; omega)) _ HSL.out).mono ?_
      rintro e w9 ⟨rfl, hb9⟩
      have HB9 := hide ((HB6.out).trans (hb9.mono (HB6.out).size))
      clear hb9
      rw [HF.out]
      cases r with
      | none =>
        rw [show encF none = ([], 6) from rfl, wrapR]
        go_wp2_with fail
        go_ret2
        exact ⟨rfl, HB9.out⟩
      | some b =>
        rw [show encF (some b) = (b, 0) from rfl, wrapR]
        go_wp2_with fail
        go_ret2
        exact ⟨rfl, HB9.out⟩
  · have hE0 : E.size ≤ 10 := by rw [hE]; decide
    have hwc := wrapF_one (t := 1) (x := ⟨#[255]⟩) (by decide)
    obtain ⟨yc, hyc⟩ : ∃ y : ByteArray, y = ⟨(wrapW 1 (⟨#[255]⟩ : ByteArray).data.toList).toArray⟩ := ⟨_, rfl⟩
    have hycs : yc.size ≤ 10 := by rw [hyc]; decide
    have HEc := hide (show critB true = yc.data.toList by rw [hyc]; rfl)
    clear hE
    go_wp2_with fail
    refine (putB_any _).mono ?_
    rintro e w5 ⟨rfl, rfl⟩
    go_wp2_with fail
    refine (wrap_one 1 (by omega) (by omega) ⟨#[255]⟩ (by decide) _ hwc _).mono ?_
    rintro e w5 ⟨rfl, hb5⟩
    rw [wrapR, ← hyc]
    have HP5 := hide (HP4.out.below hb5)
    have j2 := (hb5.cell (p := ⟨w.heap.size, 2, none⟩) hz4).trans i2
    have HB5 := hide (HB4.out.trans (hb5.mono HB4.out.size))
    obtain ⟨c0, c1, c2, f0, f1, f2⟩ := HP5.out.facts
    clear hb5 i1 i2 hyc hwc hz4
    go_upto_region 12 with fail
    obtain ⟨w6, hw6⟩ : ∃ W, W = w5.setCell ⟨gp, 1, none⟩ (.string yc) := ⟨_, rfl⟩
    have HP6 := hide (show P3 gp yi yc E w6 by rw [hw6]; exact HP5.out.st1 yc)
    have HB6 := hide (show Below w.heap.size w w6 by rw [hw6]; exact HB5.out.setCell (p := ⟨gp, 1, none⟩) hgpw _)
    have hk6 := Below.heap_setCell w5 ⟨gp, 1, none⟩ (.string yc) w.heap.size (fun e => hgpn e.symm)
    rw [← hw6] at hk6
    have i2 := (World.cell?_of_block (w := w5) (a := ⟨w.heap.size, 2, none⟩) hk6).trans j2
    rw [← hw6]
    clear hw6 c0 c1 c2 f0 f1 f2 j2 hk6
    have HP3 := HP6
    have HB3 := HB6
    by_cases hv : 131072 < va.size
    · have HN := hide (show r = none by rw [HX.out, wrapO, if_pos (by rw [size_string]; exact hv)]; rfl)
      obtain rfl := HN.out
      have hwr := wrapF_big (t := 4) hv
      clear hv
      go_wp2_with fail
      refine (wrap_one 4 (by omega) (by omega) va hva _ hwr _).mono ?_
      rintro e w5 ⟨rfl, hb5⟩
      rw [wrapR]
      have HP5 := hide (HP3.out.below hb5)
      have HB5 := hide (HB3.out.trans (hb5.mono HB3.out.size))
      obtain ⟨c0, c1, c2, f0, f1, f2⟩ := HP5.out.facts
      clear hb5
      go_wp2_with fail
      go_ret2
      exact ⟨rfl, HB5.out.setCell (p := ⟨gp, 2, none⟩) hgpw _⟩
    · have hwr := wrapF_one (t := 4) (x := va) (by omega)
      have hwl := wrapW_len 4 va.data.toList
      have hlb := lenB_le va.data.toList.length
      rw [size_string] at hwl hlb
      obtain ⟨yv, hyv⟩ : ∃ y : ByteArray, y = ⟨(wrapW 4 va.data.toList).toArray⟩ := ⟨_, rfl⟩
      have hyvs : yv.size ≤ 131077 := by rw [hyv, ba_mk]; omega
      have e4 : wrapO 4 va.data.toList = some (wrapW 4 va.data.toList) := wrapO_of (by rw [size_string]; omega)
      have HF := hide (show wrapF 48 [yi.data.toList, ByteArray.data yc |>.toList, yv.data.toList] = encF r by
        rw [encF_three, HX.out, e4, Option.bind_some, bodyX, HYI.out, hyv, HEc.out])
      clear e4
      clear hv hwl hlb
      go_wp2_with fail
      refine (wrap_one 4 (by omega) (by omega) va hva _ hwr _).mono ?_
      rintro e w5 ⟨rfl, hb5⟩
      rw [wrapR, ← hyv]
      have HP5 := hide (HP3.out.below hb5)
      have HB5 := hide (HB3.out.trans (hb5.mono HB3.out.size))
      obtain ⟨c0, c1, c2, f0, f1, f2⟩ := HP5.out.facts
      clear hb5 hyv hwr
      go_upto_region 15 with fail
      obtain ⟨w6, hw6⟩ : ∃ W, W = w5.setCell ⟨gp, 2, none⟩ (.string yv) := ⟨_, rfl⟩
      have HP6 := hide (show P3 gp yi yc yv w6 by rw [hw6]; exact HP5.out.st2 yv)
      have HB6 := hide (show Below w.heap.size w w6 by rw [hw6]; exact HB5.out.setCell (p := ⟨gp, 2, none⟩) hgpw _)
      rw [← hw6]
      clear hw6 c0 c1 c2 f0 f1 f2
      have hsl := (HP6.out).sl
      have HSL := hide hsl
      clear hsl
      go_wp2_with fail
      refine (Wrap_any 48 (by omega) (by omega) [yi.data.toList, ByteArray.data yc |>.toList, yv.data.toList] _ 3 (by simp) (fun y hy => by simp at hy; rcases hy with rfl | rfl | rfl <;> (rw [size_string]; omega)) _ HSL.out).mono ?_
      rintro e w9 ⟨rfl, hb9⟩
      have HB9 := hide ((HB6.out).trans (hb9.mono (HB6.out).size))
      clear hb9
      rw [HF.out]
      cases r with
      | none =>
        rw [show encF none = ([], 6) from rfl, wrapR]
        go_wp2_with fail
        go_ret2
        exact ⟨rfl, HB9.out⟩
      | some b =>
        rw [show encF (some b) = (b, 0) from rfl, wrapR]
        go_wp2_with fail
        go_ret2
        exact ⟨rfl, HB9.out⟩
end Go.Proofs.YtiikpdjjhnhiiaaDoor

/- ext.Encode. -/
namespace Go.Proofs.YtiikpdjjhnhiiaaDoor
open Go.RowKit

theorem info_strx : (Tryd.prog.info? 9).map (fun i => (i.zero, i.size, i.bytes)) = some (some (.string ⟨#[]⟩), 1, 16) := by kernel_rfl
theorem news_strx (w : World) (S : Nat → Prop) (t : TypeId) (x : ByteArray) :
    ∀ i y, [x.data.toList][i]? = some y → ∃ cs, RStr (w.alloc (.cells #[.string x] t)) S y cs ∧ ∀ j u, cs[j]? = some u → (w.alloc (.cells #[.string x] t)).cell? ((⟨w.heap.size, 0, none⟩ : Addr).add (i * 1 + j)) = some u :=
  news_pu (f := strC) (size := 1) (fun _ => rfl) w S _ t _ rfl
theorem echk_v (l : List Ext) (r : Int) (hr : chkE l = r) (A : Option Addr) (c : Nat) (w : World) (hmx : Mx w) (h : Sl RExt 3 w (Lt w.heap.size) l [.slice A l.length c]) (hsm : SmallX l) :
    Calls Tryd.prog 33 #[.slice A l.length c] w fun e w' => e = .returned (.int .i64 r) ∧ Below w.heap.size w w' := hr ▸ ECheck_any l A c w hmx h hsm
def preX (out : List UInt8) (o : Option (List UInt8)) : Option (List UInt8) := o.map (out ++ ·)
theorem preX_at {l : List Ext} {k : Nat} (h : k < l.length) {out e : List UInt8} (he : encX l[k] = some e) : preX out (encXs (l.drop k)) = preX (out ++ e) (encXs (l.drop (k + 1))) := by
  rw [List.drop_eq_getElem_cons h, encXs, he, Option.bind_some, preX, preX, Option.map_map]
  congr 1
  funext z
  simp
theorem preX_none {l : List Ext} {k : Nat} (h : k < l.length) {out : List UInt8} (he : encX l[k] = none) : preX out (encXs (l.drop k)) = none := by
  rw [List.drop_eq_getElem_cons h, encXs, he]; rfl
def encG (o : Option (List UInt8)) : List UInt8 × Int := match o.bind (wrapO 48) with | none => ([], 2) | some b => (b, 0)
theorem encE_ok {l : List Ext} (h : chkE l = 0) : encE l = encG (encXs l) := by rw [encE, if_pos h]; rfl

set_option maxRecDepth 100000 in
set_option maxHeartbeats 8000000 in
theorem EEncode_any (l : List Ext) (A : Option Addr) (c : Nat) (w : World) (hmx : Mx w) (h : Sl RExt 3 w (Lt w.heap.size) l [.slice A l.length c]) (hsm : SmallX l) :
    Calls Tryd.prog 27 #[.slice A l.length c] w fun e w' => e = .returned (wrapR (encE l)) ∧ Below w.heap.size w w' := by
  obtain ⟨-, hnc, hcm⟩ := h.len_
  unfold maxLen at hcm
  obtain ⟨r, hr⟩ : ∃ r, encE l = r := ⟨_, rfl⟩
  rw [hr]
  have K := hide h
  have HMX := hide hmx
  have HSM := hide hsm
  obtain ⟨q, hq⟩ : ∃ q, chkE l = q := ⟨_, rfl⟩
  have HQ := hide hq
  have HRR := hide hr
  clear h hmx hsm hr hq
  go_enter Tryd.func27, Tryd.ntmps27
  go_wp2_with fail
  refine (echk_v l q HQ.out A c _ HMX.out K.out HSM.out).mono ?_
  rintro e w1 ⟨rfl, hb1⟩
  have HB1 := hide hb1
  have hz1 := hb1.size
  clear hb1
  by_cases hq0 : q = 0
  · have ht : (q != 0) = false := by simp [hq0]
    have HR := hide (show r = encG (encXs l) by rw [← HRR.out, encE_ok (HQ.out.trans hq0)])
    have hl24 : l.length ≤ 24 := by
      have := HQ.out.trans hq0
      unfold chkE at this
      split at this
      · cases this
      · split at this
        · cases this
        · omega
    have HV := hide (chkE_mem (HQ.out.trans hq0))
    have H0 := hide (show encXs l = preX [] (encXs (l.drop 0)) by rw [preX]; simp)
    obtain ⟨base, hbase⟩ : ∃ b, b = w1.heap.size := ⟨_, rfl⟩
    have hwb : w.heap.size ≤ base := by omega
    have hgs0 : base ≤ w1.heap.size := by omega
    clear hq0 hbase
    go_wp2_with fail
    clear ht
    go_loopw [5, 19] (fun v i wr => ∃ (k : Nat) (out : List (List UInt8)), k ≤ l.length ∧ i = .int .i64 k ∧ out.length ≤ k ∧ (∀ x ∈ out, x.length ≤ 131077) ∧ Own RStr 1 9 wr base No v out ∧ Below w.heap.size w wr ∧ base ≤ wr.heap.size ∧ Hid (encXs l = preX out.flatten (encXs (l.drop k)))) (fun _ i _ => l.length - (intOf i).toNat)
    case atStart => exact ⟨0, [], by omega, rfl, by simp, (fun x hx => by cases hx), Own.nil _ _ _ _ _ _, HB1.out, hgs0, H0⟩
    case round =>
      obtain ⟨k, out, hk, rfl, hol, hox, hown, hb, hgs, H⟩ := hrel
      have HB := hide hb
      have HOX := hide hox
      have HOWN := hide hown
      obtain ⟨A2, cp, hv⟩ := (hown.sl RStr.ok).shape
      subst hv
      clear hb hox hown
      by_cases hlt : k < l.length
      · obtain ⟨b, off, hA, hbS, e0, e1, e2⟩ := K.out.extAt hlt
        subst hA
        obtain ⟨hs0, hs2⟩ := HSM.out l[k] (List.getElem_mem hlt)
        have hval := HV.out l[k] (List.getElem_mem hlt)
        have HPS := hide (fun (ee : List UInt8) (h : encX l[k] = some ee) => H.out.trans (preX_at hlt h))
        have HPN := hide (fun (h : encX l[k] = none) => H.out.trans (preX_none hlt h))
        obtain ⟨⟨id, cr, va⟩, hel⟩ : ∃ e, l[k] = e := ⟨_, rfl⟩
        rw [hel] at e0 e1 e2 hs0 hs2 hval HPS HPN
        simp only at e0 e1 e2 hs0 hs2 hval
        obtain ⟨x1, hx1⟩ : ∃ x : ByteArray, x = ⟨id.toArray⟩ := ⟨_, rfl⟩
        obtain ⟨x2, hx2⟩ : ∃ x : ByteArray, x = ⟨va.toArray⟩ := ⟨_, rfl⟩
        have hid : id = x1.data.toList := by rw [hx1]
        have hva : va = x2.data.toList := by rw [hx2]
        rw [← hx1] at e0
        rw [← hx2] at e2
        rw [hid] at hs0 hval HPS HPN
        rw [hva] at hs2 HPS HPN
        rw [size_string] at hs0 hs2
        have hbS' : b < w.heap.size := hbS
        have p0 := (HB.out.cell (p := ⟨b, off + k * 3, none⟩) hbS').trans e0
        have p1 := (HB.out.cell (p := ⟨b, off + k * 3 + 1, none⟩) hbS').trans e1
        have p2 := (HB.out.cell (p := ⟨b, off + k * 3 + 2, none⟩) hbS').trans e2
        obtain ⟨o, ho⟩ : ∃ o, encX (x1.data.toList, cr, x2.data.toList) = o := ⟨_, rfl⟩
        rw [ho] at HPS HPN
        have HO := hide ho
        have HVAL := hide hval
        clear e0 e1 e2 hx1 hx2 hel hid hva ho hval
        have HMr := hide (HMX.out.below HB.out)
        obtain ⟨wo, rfl⟩ : ∃ wo : World, wo = wr := ⟨_, rfl⟩
        go_upto_region 8 with fail
        obtain ⟨wB, hwB⟩ : ∃ W, W = wo.alloc (.cells #[.string x1, .bool cr, .string x2] 49) := ⟨_, rfl⟩
        have q0 : wB.cell? ⟨wo.heap.size, 0, none⟩ = some (.string x1) := by rw [hwB, World.cell?_alloc_new]; rfl
        have q1 : wB.cell? ⟨wo.heap.size, 1, none⟩ = some (.bool cr) := by rw [hwB, World.cell?_alloc_new]; rfl
        have q2 : wB.cell? ⟨wo.heap.size, 2, none⟩ = some (.string x2) := by rw [hwB, World.cell?_alloc_new]; rfl
        have hbB : Below wo.heap.size wo wB := by rw [hwB]; exact (Below.refl _ _).alloc (Nat.le_refl _) _
        have HBB := hide (HB.out.trans (hbB.mono HB.out.size))
        have HMB := hide (HMr.out.below hbB)
        have HOB := hide (HOWN.out.below RStr.ok (no_lt _) hbB)
        have hzB := hbB.size
        rw [← hwB]
        clear hwB p0 p1 p2 hbB
        obtain ⟨gx, hgx⟩ : ∃ g, wo.heap.size = g := ⟨_, rfl⟩
        rw [hgx] at q0 q1 q2 ⊢
        clear hgx
        go_wp2_with fail
        refine (encOne_any x1 x2 cr hs0 hs2 HVAL.out _ HMB.out).mono ?_
        rintro e w5 ⟨rfl, hb5⟩
        rw [HO.out]
        have HB5 := hide (HBB.out.trans (hb5.mono HBB.out.size))
        have HO5 := hide (HOB.out.below RStr.ok (no_lt _) hb5)
        have hz5 := hb5.size
        clear hb5 q0 q1 q2
        cases o with
        | none =>
          have HY := hide (show r = ([], 2) by rw [HR.out, HPN.out rfl]; rfl)
          rw [show encXR none = .tuple #[.string ⟨#[]⟩, .int .i64 6] from rfl]
          go_wp2_with fail
          go_ret2
          exact ⟨by rw [HY.out]; rfl, HB5.out⟩
        | some ee =>
          have HY := hide (HPS.out ee rfl)
          have hel := encX_len HO.out
          obtain ⟨y, hy⟩ : ∃ y : ByteArray, y = ⟨ee.toArray⟩ := ⟨_, rfl⟩
          have hye : ee = y.data.toList := by rw [hy]
          rw [show encXR (some ee) = .tuple #[.string y, .int .i64 0] by rw [encXR, hy]]
          rw [hye] at HY hel
          have HEL := hide hel
          clear hy hye hel
          go_wp2_with (at_builtin; refine wpList_app RStr.ok _ rfl (.tmp 30) (.tmp 32) 33 rfl base 9 (.string ⟨#[]⟩) 16 Tryd.underlying33 info_strx rfl (by decide) No _ out rfl (HO5.out.alloc RStr.ok (no_lt _) _) ⟨_, 0, none⟩ 1 1 [y.data.toList] rfl rfl (news_strx _ _ _ y) (no_lt _) (by simp; omega) (by simp [maxLen]; omega) (by simp; omega) ?_; intro v2 w2 hown2 hg2 hb2 hat2; have hsz2 := hb2.size; simp at hsz2)
          go_roundw
          case rel => exact ⟨k + 1, out ++ [y.data.toList], by omega, by go_num, by simp; omega, (fun x hx => by
            rcases List.mem_append.1 hx with hx | hx
            · exact HOX.out x hx
            · simp at hx; subst hx; exact HEL.out), hown2, (HB5.out.alloc (by omega) _).trans (hb2.mono (by omega)), by omega, by rw [List.flatten_append]; simpa using HY⟩
          case measure => simp [intOf]; omega
      · have HS := hide (show encXs l = some out.flatten by rw [H.out, List.drop_of_length_le (by omega)]; simp [preX, encXs])
        have hsl := (Sl.ok RStr.ok).mono (HOWN.out.sl RStr.ok) (S' := Lt wr.heap.size) (fun _ _ => rfl) (fun j hj => by rcases hj with hj | hj; exact hj.elim; exact hj.2)
        have HSL := hide hsl
        clear hsl
        go_wp2_with fail
        refine (Wrap_any 48 (by omega) (by omega) out A2 cp (by omega) (fun x hx => by have := HOX.out x hx; omega) _ HSL.out).mono ?_
        rintro e w5 ⟨rfl, hb5⟩
        have HB5 := hide (HB.out.trans (hb5.mono HB.out.size))
        clear hb5
        by_cases hbig : 131072 < out.flatten.length
        · have HN := hide (show wrapF 48 out = ([], 6) by rw [wrapF, if_pos hbig])
          have HY := hide (show r = ([], 2) by rw [HR.out, HS.out, encG, Option.bind_some, wrapO, if_pos hbig])
          rw [HN.out, wrapR]
          clear hbig
          go_wp2_with fail
          go_ret2
          exact ⟨by rw [HY.out]; rfl, HB5.out⟩
        · have HN := hide (show wrapF 48 out = (wrapW 48 out.flatten, 0) by rw [wrapF, if_neg hbig])
          have HY := hide (show r = (wrapW 48 out.flatten, 0) by rw [HR.out, HS.out, encG, Option.bind_some, wrapO, if_neg hbig])
          rw [HN.out, wrapR]
          clear hbig
          go_wp2_with fail
          go_ret2
          exact ⟨by rw [HY.out]; rfl, HB5.out⟩
  · have ht : (q != 0) = true := by simp [hq0]
    have HY := hide (show r = ([], q) by rw [← HRR.out, encE, if_neg (by rw [HQ.out]; exact hq0), HQ.out])
    clear hq0
    go_wp2_with fail
    go_ret2
    exact ⟨by rw [HY.out]; rfl, HB1.out⟩
end Go.Proofs.YtiikpdjjhnhiiaaDoor
