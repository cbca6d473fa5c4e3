/- The second part of a key's Decode: the bit string. -/
import Derived.Test.YtmgnihmjjijdoaaDoorKKeyF
namespace Go.Proofs.YtmgnihmjjijdoaaDoor
open Go.RowKit
def bitP : Option (List UInt8 × Nat) → Except Int Key
 | none => .error 7
 | some (b, u) => if u ≠ 0 ∨ b.length ≠ 33 then .error 18 else if chkK (keyB b) ≠ 0 then .error 18 else .ok (keyB b)
def bitF (t : Int) (c : List UInt8) : Except Int Key := if t ≠ 3 then .error 5 else bitP (bitsF c)
def bitE (q : List Elt) : Except Int Key → Except Int Key
 | .error k => .error k
 | .ok k => if q ≠ [] then .error 4 else .ok k
theorem bitK_eq (x : Elt) (q : List Elt) : bitK x q = bitE q (bitF x.1 x.2.1) := by
  unfold bitK bitF
  by_cases h : x.1 = 3
  · rw [if_neg (by simpa using h), if_neg (by omega)]
    cases bitsF x.2.1 with
    | none => rfl
    | some p =>
      obtain ⟨b, u⟩ := p
      simp only [bitP]
      split
      · rfl
      · split
        · rfl
        · rfl
  · rw [if_pos h, if_pos (by omega)]; rfl
theorem bitF_err0 {t : Int} {c : List UInt8} : bitF t c ≠ .error 0 := fun h => by
 unfold bitF at h
 split at h
 ·cases h
 ·unfold bitP at h
  split at h
  ·cases h
  ·split at h
   ·cases h
   ·split at h <;> cases h
def RK (g : Nat) (h : Int) (i r : ByteArray) (W : World) : Prop := W.heap[g]? = some (.cells #[.int .i64 h, .string i, .string r] 57 (0, 0))
theorem RK.facts {g : Nat} {h : Int} {i r : ByteArray} {W : World} (k : RK g h i r W) : W.cell? ⟨g, 0, none⟩ = some (.int .i64 h) ∧ W.cell? ⟨g, 1, none⟩ = some (.string i) ∧ W.cell? ⟨g, 2, none⟩ = some (.string r) ∧
  W.frozen? ⟨g, 0, none⟩ = false ∧ W.frozen? ⟨g, 1, none⟩ = false ∧ W.frozen? ⟨g, 2, none⟩ = false := by
 unfold RK at k
 simp [World.cell?, World.frozen?, k]
theorem RK.lt {g : Nat} {h : Int} {i r : ByteArray} {W : World} (k : RK g h i r W) : g < W.heap.size := (Array.getElem?_eq_some_iff.1 k).1
theorem RK.below {g : Nat} {h : Int} {i r : ByteArray} {W W' : World} (k : RK g h i r W) (hb : Below W.heap.size W W') : RK g h i r W' := (hb.block g k.lt).trans k
theorem RK.store {g : Nat} {h : Int} {i r : ByteArray} {W : World} (k : RK g h i r W) (a : Int) (b c : ByteArray) :
  RK g a b c (((W.setCell ⟨g, 0, none⟩ (.int .i64 a)).setCell ⟨g, 1, none⟩ (.string b)).setCell ⟨g, 2, none⟩ (.string c)) := by
 unfold RK at *
 simp [World.setCell, Array.getElem?_modify, k]
def bitRes (g : Nat) : Except Int Key → Ending → World → Prop
 | .error k, e, _ => e = .returned (.int .i64 k)
 | .ok k, e, w' => e = .returned (.int .i64 0) ∧ RK g k.1 ⟨k.2.1.toArray⟩ ⟨k.2.2.toArray⟩ w'
def BitPost (g : Nat) (o : Except Int Key) (w : World) (e : Ending) (w' : World) : Prop := Ex g w w' ∧ (∃ h i r, RK g h i r w') ∧ bitRes g o e w'
set_option maxRecDepth 100000 in
set_option maxHeartbeats 4000000 in
theorem rbits_any (g : Nat) (t : Int) (c raw : ByteArray) (hc : c.size ≤ 131072) (h0 : Int) (i0 r0 : ByteArray) (w : World) (hr : RK g h0 i0 r0 w) :
    Calls Tryd.prog 29 #[.pointer (some ⟨g, 0, none⟩), .agg #[.int .i64 t, .string c, .string raw]] w (BitPost g (bitF t c.data.toList) w) := by
  obtain ⟨o, ho⟩ : ∃ o, bitF t c.data.toList = o := ⟨_, rfl⟩
  rw [ho]
  have HO := hide ho
  clear ho
  have hgl := hr.lt
  obtain ⟨W0, hW0⟩ : ∃ W, W = w.alloc (.cells #[.int .i64 t, .string c, .string raw] 50) := ⟨_, rfl⟩
  have n0 : W0.cell? ⟨w.heap.size, 0, none⟩ = some (.int .i64 t) := by rw [hW0, World.cell?_alloc_new]; rfl
  have n1 : W0.cell? ⟨w.heap.size, 1, none⟩ = some (.string c) := by rw [hW0, World.cell?_alloc_new]; rfl
  have hb0 : Below w.heap.size w W0 := by rw [hW0]; exact (Below.refl _ _).alloc (Nat.le_refl _) _
  have HR0 := hide (hr.below hb0)
  have HX0 := hide (show Ex g w W0 from Ex.of_below hb0)
  clear hb0 hr
  go_enter Tryd.func29, Tryd.ntmps29
  go_upto_region 1 with fail
  rw [← hW0]
  clear hW0
  by_cases h3 : t = 3
  · have ht : (t != 3) = false := by rw [h3]; rfl
    obtain ⟨p, hp⟩ : ∃ p, bitsF c.data.toList = p := ⟨_, rfl⟩
    have HX := hide (show o = bitP p by rw [← HO.out, bitF, if_neg (by simpa using h3), hp])
    have HP := hide hp
    clear h3 hp
    go_wp2_with fail
    refine (Bits_any c (by omega) _).mono ?_
    rintro e w1 ⟨rfl, hb1⟩
    rw [HP.out]
    have HR1 := hide (HR0.out.below hb1)
    have HX1 := hide (HX0.out.then_ hb1)
    clear hb1 n0 n1 ht
    cases p with
    | none =>
      have HN := hide (show o = .error 7 from HX.out)
      rw [show bitsR none = .tuple #[.string ⟨#[]⟩, .int .i64 0, .int .i64 7] from rfl]
      go_wp2_with fail
      go_ret
      exact ⟨HX1.out, ⟨_, _, _, HR1.out⟩, by rw [HN.out]; rfl⟩
    | some bu =>
      obtain ⟨b, u⟩ := bu
      obtain ⟨s, hs⟩ : ∃ s : ByteArray, s = ⟨b.toArray⟩ := ⟨_, rfl⟩
      have hbs : b = s.data.toList := by rw [hs]
      rw [show bitsR (some (b, u)) = .tuple #[.string s, .int .i64 (u : Int), .int .i64 0] by rw [hs]; rfl]
      have HX2 := hide (show o = if u ≠ 0 ∨ s.size ≠ 33 then .error 18 else if chkK (keyB s.data.toList) ≠ 0 then .error 18 else .ok (keyB s.data.toList) by rw [HX.out, bitP, hbs, size_string])
      clear hs hbs
      by_cases hu : u = 0
      · by_cases hs33 : s.size = 33
        · have t2 : ((s.size : Int) != 33) = false := by rw [hs33]; rfl
          have hp0 : 0 < s.size := by omega
          have hpi : (0 : Int) < (s.size : Int) := by omega
          obtain ⟨v, hv⟩ : ∃ v, s[0] = v := ⟨_, rfl⟩
          have hs1 := slice_str (P := Tryd.prog) 9 Tryd.underlying9 s 1 17 1 17 rfl rfl (by omega) (by omega)
          have hs2 := slice_from (P := Tryd.prog) 9 Tryd.underlying9 s 17 17 rfl (by omega)
          obtain ⟨x, hx⟩ : ∃ x, s.extract 1 17 = x := ⟨_, rfl⟩
          obtain ⟨y, hy⟩ : ∃ y, s.extract 17 s.size = y := ⟨_, rfl⟩
          have hxl : x.data.toList = (s.data.toList.drop 1).take 16 := by rw [← hx, Lib.extract_data]
          have hyl : y.data.toList = s.data.toList.drop 17 := by rw [← hy, bytes_drop]
          have hd0 := drop_string s 0 hp0
          rw [List.drop_zero, hv] at hd0
          have HK := hide (show keyB s.data.toList = ((v.toNat : Int), x.data.toList, y.data.toList) by rw [keyB, hxl, hyl, hd0]; rfl)
          rw [hx] at hs1
          rw [hy] at hs2
          obtain ⟨kq, hkq⟩ : ∃ kq, chkK ((v.toNat : Int), x.data.toList, y.data.toList) = kq := ⟨_, rfl⟩
          have HX3 := hide (show o = if kq ≠ 0 then .error 18 else .ok ((v.toNat : Int), x.data.toList, y.data.toList) by rw [HX2.out, if_neg (by simp [hu, hs33]), HK.out, hkq])
          have HKQ := hide hkq
          have hvb := byte_lt v
          have hvw : IntKind.i64.wrap (v.toNat : Int) = (v.toNat : Int) := IntWalk.i64_in _ (by omega)
          have hu0 : ((u : Int) != 0) = false := by rw [hu]; rfl
          clear hx hy hxl hyl hd0 hkq hs33 hu
          obtain ⟨c0, c1, c2, f0, f1, f2⟩ := HR1.out.facts
          go_upto_region 8 with fail
          go_region
          all_goals
            obtain ⟨wX, hwX⟩ : ∃ W, W = ((w1.setCell ⟨g, 0, none⟩ (.int .i64 (v.toNat : Int))).setCell ⟨g, 1, none⟩ (.string x)).setCell ⟨g, 2, none⟩ (.string y) := ⟨_, rfl⟩
            have hrX := HR1.out.store (v.toNat : Int) x y
            have hxX : Ex g w wX := by rw [hwX]; exact ((HX1.out.trans (Ex.set g 0 _ _)).trans (Ex.set g 1 _ _)).trans (Ex.set g 2 _ _)
            rw [← hwX] at hrX ⊢
            have HRX := hide (show RK g (v.toNat : Int) x y wX.drew from hrX)
            have HXX := hide hxX.drew
            clear hwX c0 c1 c2 f0 f1 f2 hrX hxX
            obtain ⟨wY, hwY⟩ : ∃ W, W = wX.drew := ⟨_, rfl⟩
            rw [← hwY] at HRX HXX ⊢
            clear hwY
            obtain ⟨c0, c1, c2, f0, f1, f2⟩ := HRX.out.facts
            go_wp2_with fail
            refine (MCheck_any (v.toNat : Int) x y _).mono ?_
            rintro e w2 ⟨rfl, hb2⟩
            rw [HKQ.out]
            have HR2 := hide (HRX.out.below hb2)
            have HX2' := hide (HXX.out.then_ hb2)
            clear hb2 c0 c1 c2 f0 f1 f2
            by_cases hk : kq = 0
            · subst hk
              have HN := hide (show o = .ok ((v.toNat : Int), x.data.toList, y.data.toList) from HX3.out)
              go_wp2_with fail
              go_ret
              exact ⟨HX2'.out, ⟨_, _, _, HR2.out⟩, by rw [HN.out]; exact ⟨rfl, HR2.out⟩⟩
            · have h18 : kq = 18 := by
                have := HKQ.out
                unfold chkK at this
                split at this <;> omega
              subst h18
              have HN := hide (show o = .error 18 from HX3.out)
              go_wp2_with fail
              go_ret
              exact ⟨HX2'.out, ⟨_, _, _, HR2.out⟩, by rw [HN.out]; rfl⟩
        · have t2 : ((s.size : Int) != 33) = true := bne_iff_ne.2 (by omega)
          have hu0 : ((u : Int) != 0) = false := by rw [hu]; rfl
          have HN := hide (show o = .error 18 by rw [HX2.out, if_pos (.inr hs33)])
          clear hs33 hu
          go_wp2_with fail
          go_ret
          exact ⟨HX1.out, ⟨_, _, _, HR1.out⟩, by rw [HN.out]; rfl⟩
      · have hu0 : ((u : Int) != 0) = true := bne_iff_ne.2 (by omega)
        have HN := hide (show o = .error 18 by rw [HX2.out, if_pos (.inl hu)])
        clear hu
        go_wp2_with fail
        go_ret
        exact ⟨HX1.out, ⟨_, _, _, HR1.out⟩, by rw [HN.out]; rfl⟩
  · have ht : (t != 3) = true := by simpa using h3
    have HN := hide (show o = .error 5 by rw [← HO.out, bitF, if_pos h3])
    clear h3
    go_wp2_with fail
    go_ret
    exact ⟨HX0.out, ⟨_, _, _, HR0.out⟩, by rw [HN.out]; rfl⟩
end Go.Proofs.YtmgnihmjjijdoaaDoor
