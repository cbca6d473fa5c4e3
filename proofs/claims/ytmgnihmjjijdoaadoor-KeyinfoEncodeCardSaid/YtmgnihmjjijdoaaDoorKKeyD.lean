/- Bits of a bit string: prim.Bits, the reference's Bits. -/
import Derived.Test.YtmgnihmjjijdoaaDoorKKeyC
namespace Go.Proofs.YtmgnihmjjijdoaaDoor
open Go.RowKit
def bitsR : Option (List UInt8 × Nat) → Value
 | none => .tuple #[.string ⟨#[]⟩, .int .i64 0, .int .i64 7]
 | some (b, u) => .tuple #[.string ⟨b.toArray⟩, .int .i64 (u : Int), .int .i64 0]
theorem spare_q (b : ByteArray) (hb : b.size ≤ 1000000000) (u : Nat) (hu : u ≤ 7) (q : Bool) (hq : spareF b.data.toList u = q) (w : World) :
  Calls Tryd.prog 33 #[.string b, .int .i64 (u : Int)] w fun e w' => e = .returned (.bool q) ∧ Below w.heap.size w w' :=
 (spare_any b hb u hu w).mono fun e w' h => ⟨h.1.trans (by rw [hq]), h.2 ▸ Below.refl _ _⟩
set_option maxRecDepth 100000 in
set_option maxHeartbeats 8000000 in
theorem Bits_any (c : ByteArray) (hc : c.size ≤ 1000000) (w : World) :
    Calls Tryd.prog 41 #[.string c] w fun e w' => e = .returned (bitsR (bitsF c.data.toList)) ∧ Below w.heap.size w w' := by
  obtain ⟨o, ho⟩ : ∃ o, bitsF c.data.toList = o := ⟨_, rfl⟩
  rw [ho]
  go_enter Tryd.func41, Tryd.ntmps41
  by_cases he : c.size = 0
  · have hem : c.toList = [] := by rw [ByteArray.toList_eq]; exact List.eq_nil_of_length_eq_zero (by rw [size_string]; omega)
    have hem1 : (c.toList == []) = true := by rw [hem]; rfl
    have hem2 : c.toList.isEmpty = true := by rw [hem]; rfl
    have HN := hide (show o = none by rw [← ho, show c.data.toList = [] by rw [← ByteArray.toList_eq]; exact hem]; rfl)
    clear hem
    clear ho he
    go_wp2_with fail
    go_region
    all_goals
      go_wp2_with fail
      go_ret3
      exact ⟨by rw [HN.out]; rfl, (Below.refl _ _).drew⟩
  · have hp : 0 < c.size := by omega
    have hpi : (0 : Int) < (c.size : Int) := by omega
    have hem : ¬ c.toList = [] := by rw [ByteArray.toList_eq]; intro e; have := size_string c; rw [e] at this; simp at this; omega
    have hem1 : (c.toList == []) = false := by simpa using hem
    have hem2 : c.toList.isEmpty = false := by simpa using hem
    have hd0 := drop_string c 0 hp
    rw [List.drop_zero] at hd0
    obtain ⟨u, hu⟩ : ∃ u, c[0] = u := ⟨_, rfl⟩
    rw [hu] at hd0
    have hub := byte_lt u
    have hs1 := slice_from (P := Tryd.prog) 9 Tryd.underlying9 c 1 1 rfl (by omega)
    have hxl := bytes_drop c 1
    have hxs : (c.extract 1 c.size).size ≤ 1000000 := by rw [ba_size_ex _ _ _ (Nat.le_refl _)]; omega
    obtain ⟨x, hx⟩ : ∃ x, c.extract 1 c.size = x := ⟨_, rfl⟩
    rw [hx] at hs1 hxl hxs
    have HX := hide (show o = if 7 < u.toNat then none else if spareF x.data.toList u.toNat then some (x.data.toList, u.toNat) else none by rw [← ho, hd0, bitsF_cons, hxl])
    clear hem he hd0 hx hxl ho
    by_cases h7 : 7 < u.toNat
    · have h7i : (7 : Int) < (u.toNat : Int) := by omega
      have HN := hide (show o = none by rw [HX.out, if_pos h7])
      clear h7
      go_wp2_with fail
      go_region
      all_goals
        go_wp2_with fail
        go_ret3
        exact ⟨by rw [HN.out]; rfl, (Below.refl _ _).drew⟩
    · have h7i : ¬ (7 : Int) < (u.toNat : Int) := by omega
      obtain ⟨n, hn⟩ : ∃ n, u.toNat = n := ⟨_, rfl⟩
      obtain ⟨q, hq⟩ : ∃ q, spareF x.data.toList n = q := ⟨_, rfl⟩
      have HX2 := hide (show o = if q = true then some (x.data.toList, n) else none by rw [HX.out, if_neg h7, hn, hq])
      rw [hn] at hub h7i h7
      have HN7 := hide h7
      have HSP := hide (spare_q x (by omega) n (by have := HN7.out; omega) q hq)
      have hdec : decide ((7 : Int) < (n : Int)) = false := decide_eq_false h7i
      have hcv : IntKind.i64.wrap (n : Int) = (n : Int) := IntWalk.i64_in _ (by omega)
      clear h7 hq
      go_wp2_with fail
      go_region_held3 (fun W => Below w.heap.size w W)
        (first | exact hs9 | exact (Below.refl _ _).drew | exact Below.refl _ _)
        (first
          | (go_at_call 33; refine (HSP.out _).mono ?_; rintro e wn ⟨rfl, hbn⟩; have hs9 := ((Below.refl w.heap.size w).drew).trans (hbn.mono (Nat.le_refl _)))
          | fail)
      all_goals
        cases q with
        | false =>
          have HN := hide (show o = none from HX2.out)
          go_wp2_with fail
          go_ret3
          exact ⟨by rw [HN.out]; rfl, hs9⟩
        | true =>
          have HN := hide (show o = some (x.data.toList, n) from HX2.out)
          go_wp2_with fail
          go_region
          all_goals
            go_wp2_with fail
            go_ret3
            exact ⟨by rw [HN.out]; rfl, hs9.drew⟩
end Go.Proofs.YtmgnihmjjijdoaaDoor
