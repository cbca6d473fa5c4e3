/- Bits of a bit string: the reference's Bits. -/
import Derived.Test.YtbafpgdmnkkclaaDoorKeyD
import Derived.BigRegion
namespace Go.Proofs.YtbafpgdmnkkclaaDoor
open Go.RowKit

theorem spareF_nil {u : Nat} (h : u ≠ 0) : spareF [] u = false := by rw [spareF, beq_false_of_ne h]; rfl

set_option maxRecDepth 100000 in
set_option maxHeartbeats 4000000 in
theorem rBits_any (c : ByteArray) (hc : c.size ≤ 1000000) (w : World) :
    Calls Tryd.prog 37 #[.string c] w fun e w' => e = .returned (bitsR (bitsF c.data.toList)) ∧ Below w.heap.size w w' := by
  obtain ⟨o, ho⟩ : ∃ o, bitsF c.data.toList = o := ⟨_, rfl⟩
  rw [ho]
  go_enter Tryd.func37, Tryd.ntmps37
  by_cases he : c.size = 0
  · have hei : ((c.size : Int) == 0) = true := by rw [he]; rfl
    have HN := hide (show o = none by rw [← ho, List.eq_nil_of_length_eq_zero (show c.data.toList.length = 0 by rw [size_string]; exact he)]; rfl)
    clear he
    go_wp2_with fail
    go_region
    all_goals
      go_wp2_with fail
      go_ret3
      exact ⟨by rw [HN.out]; rfl, (Below.refl _ _).drew⟩
  · have hp : 0 < c.size := by omega
    have hpi : (0 : Int) < (c.size : Int) := by omega
    have hei : ((c.size : Int) == 0) = false := beq_false_of_ne (by omega)
    have hd0 := drop_string c 0 hp
    rw [List.drop_zero] at hd0
    obtain ⟨u, hu⟩ : ∃ u, c[0] = u := ⟨_, rfl⟩
    rw [hu] at hd0
    have hub := byte_lt u
    have hs1 := slice_from (P := Tryd.prog) 9 Tryd.underlying9 c 1 1 rfl (by omega)
    have hxl := bytes_drop c 1
    have hxs : (c.extract 1 c.size).size = c.size - 1 := ba_size_ex _ _ _ (Nat.le_refl _)
    obtain ⟨x, hx⟩ : ∃ x, c.extract 1 c.size = x := ⟨_, rfl⟩
    rw [hx] at hs1 hxl hxs
    have HX := hide (show o = if 7 < u.toNat then none else if spareF x.data.toList u.toNat then some (x.data.toList, u.toNat) else none by rw [← ho, hd0, bitsF_cons, hxl])
    have HXS := hide hxs
    have HXL := hide hxl
    clear he hd0 hx hxl ho hxs
    obtain ⟨n, hn⟩ : ∃ n, u.toNat = n := ⟨_, rfl⟩
    rw [hn] at hub HX
    by_cases h7 : 7 < n
    · have h7i : (7 : Int) < (n : Int) := by omega
      have hdec : decide ((7 : Int) < (n : Int)) = true := decide_eq_true h7i
      have HN := hide (show o = none by rw [HX.out, if_pos h7])
      clear h7
      go_wp2_with fail
      go_region
      all_goals
        go_wp2_with fail
        go_ret3
        exact ⟨by rw [HN.out]; rfl, (Below.refl _ _).drew⟩
    · have HX2 := hide (show o = if spareF x.data.toList n then some (x.data.toList, n) else none by rw [HX.out, if_neg h7])
      by_cases h0 : n = 0
      · subst h0
        have HN := hide (show o = some (x.data.toList, 0) from HX2.out)
        clear h7
        go_wp2_with fail
        go_region
        all_goals
          go_wp2_with fail
          go_region
          all_goals
            go_wp2_with fail
            go_ret3
            exact ⟨by rw [HN.out]; rfl, (Below.refl _ _).drew.drew⟩
      · by_cases h1 : c.size = 1
        · have h1i : ((c.size : Int) == 1) = true := by rw [h1]; rfl
          have h7i : ¬ (7 : Int) < (n : Int) := by omega
          have hdec : decide ((7 : Int) < (n : Int)) = false := decide_eq_false h7i
          have h0i : (0 : Int) < (n : Int) := by omega
          have hn0 : 0 < n := by omega
          have hdec0 : decide (0 < n) = true := decide_eq_true hn0
          have HN := hide (show o = none by
            rw [HX2.out, List.eq_nil_of_length_eq_zero (show x.data.toList.length = 0 by rw [size_string, HXS.out, h1]), spareF_nil h0]; rfl)
          clear h1 h0 h7
          go_wp2_with fail
          go_region
          all_goals
            go_wp2_with fail
            go_ret3
            exact ⟨by rw [HN.out]; rfl, (Below.refl _ _).drew⟩
        · have h1i : ((c.size : Int) == 1) = false := beq_false_of_ne (by omega)
          obtain ⟨k, hk⟩ : ∃ k, k = c.size - 1 := ⟨_, rfl⟩
          have hkn : k < c.size := by omega
          have hki : (c.size : Int) - 1 = (k : Int) := by omega
          have hkw : IntKind.i64.wrap ((c.size : Int) - 1) = (k : Int) := by rw [IntWalk.i64_in _ (by omega)]; omega
          obtain ⟨y, hy⟩ : ∃ y, c[k] = y := ⟨_, rfl⟩
          have hyb := byte_lt y
          have HSPL := hide (show ∀ v m : Nat, v ≠ 0 → y.toNat % 2 ^ v = m → spareF x.data.toList v = (m == 0) from fun v m hv hm => by
            have hx1 : (k - 1) + 1 = x.size := by rw [HXS.out]; omega
            refine spareF_last hx1 hv ?_
            have e : x.data.toList[k - 1]'(by rw [size_string]; omega) = c.data.toList[k]'(by rw [size_string]; omega) := by
              simp only [HXL.out, List.getElem_drop]
              congr 1
              omega
            have e2 : x[k - 1] = c[k] := e
            rw [e2, hy]; exact hm)
          have hcs : n = 1 ∨ n = 2 ∨ n = 3 ∨ n = 4 ∨ n = 5 ∨ n = 6 ∨ n = 7 := by omega
          clear hk h0 h1 h7
          rcases hcs with rfl | rfl | rfl | rfl | rfl | rfl | rfl
          · have hcu : IntKind.i64.wrap ((1 : Nat) : Int) = 1 := rfl
            obtain ⟨m, hm⟩ : ∃ m, y.toNat % 2 = m := ⟨_, rfl⟩
            have hmi : (y.toNat : Int) % 2 = (m : Int) := by omega
            have hmt : (y.toNat : Int).tmod 2 = (m : Int) := by rw [Int.tmod_eq_emod_of_nonneg (by omega)]; exact hmi
            have hmy : IntKind.i64.wrap (y.toNat : Int) = (y.toNat : Int) := IntWalk.i64_in _ (by omega)
            have hmb : m < 256 := by omega
            have hmm : IntKind.i64.wrap (m : Int) = (m : Int) := IntWalk.i64_in _ (by omega)
            have HS := hide (HSPL.out 1 m (by omega) hm)
            clear hm
            by_cases hm0 : m = 0
            · have t1 : ((m : Int) != 0) = false := by rw [hm0]; rfl
              have HN := hide (show o = some (x.data.toList, 1) by rw [HX2.out, HS.out, hm0]; rfl)
              clear hm0
              go_wp2_with fail
              go_region
              all_goals
                go_wp2_with fail
                go_region
                all_goals
                  go_wp2_with fail
                  go_ret3
                  exact ⟨by rw [HN.out]; rfl, (Below.refl _ _).drew.drew⟩
            · have t1 : ((m : Int) != 0) = true := bne_iff_ne.2 (by omega)
              have HN := hide (show o = none by rw [HX2.out, HS.out, beq_false_of_ne hm0]; rfl)
              clear hm0
              go_wp2_with fail
              go_region
              all_goals
                go_wp2_with fail
                go_ret3
                exact ⟨by rw [HN.out]; rfl, (Below.refl _ _).drew⟩
          · have hcu : IntKind.i64.wrap ((2 : Nat) : Int) = 2 := rfl
            obtain ⟨m, hm⟩ : ∃ m, y.toNat % 4 = m := ⟨_, rfl⟩
            have hmi : (y.toNat : Int) % 4 = (m : Int) := by omega
            have hmt : (y.toNat : Int).tmod 4 = (m : Int) := by rw [Int.tmod_eq_emod_of_nonneg (by omega)]; exact hmi
            have hmy : IntKind.i64.wrap (y.toNat : Int) = (y.toNat : Int) := IntWalk.i64_in _ (by omega)
            have hmb : m < 256 := by omega
            have hmm : IntKind.i64.wrap (m : Int) = (m : Int) := IntWalk.i64_in _ (by omega)
            have HS := hide (HSPL.out 2 m (by omega) hm)
            clear hm
            by_cases hm0 : m = 0
            · have t1 : ((m : Int) != 0) = false := by rw [hm0]; rfl
              have HN := hide (show o = some (x.data.toList, 2) by rw [HX2.out, HS.out, hm0]; rfl)
              clear hm0
              go_wp2_with fail
              go_region
              all_goals
                go_wp2_with fail
                go_region
                all_goals
                  go_wp2_with fail
                  go_ret3
                  exact ⟨by rw [HN.out]; rfl, (Below.refl _ _).drew.drew⟩
            · have t1 : ((m : Int) != 0) = true := bne_iff_ne.2 (by omega)
              have HN := hide (show o = none by rw [HX2.out, HS.out, beq_false_of_ne hm0]; rfl)
              clear hm0
              go_wp2_with fail
              go_region
              all_goals
                go_wp2_with fail
                go_ret3
                exact ⟨by rw [HN.out]; rfl, (Below.refl _ _).drew⟩
          · have hcu : IntKind.i64.wrap ((3 : Nat) : Int) = 3 := rfl
            obtain ⟨m, hm⟩ : ∃ m, y.toNat % 8 = m := ⟨_, rfl⟩
            have hmi : (y.toNat : Int) % 8 = (m : Int) := by omega
            have hmt : (y.toNat : Int).tmod 8 = (m : Int) := by rw [Int.tmod_eq_emod_of_nonneg (by omega)]; exact hmi
            have hmy : IntKind.i64.wrap (y.toNat : Int) = (y.toNat : Int) := IntWalk.i64_in _ (by omega)
            have hmb : m < 256 := by omega
            have hmm : IntKind.i64.wrap (m : Int) = (m : Int) := IntWalk.i64_in _ (by omega)
            have HS := hide (HSPL.out 3 m (by omega) hm)
            clear hm
            by_cases hm0 : m = 0
            · have t1 : ((m : Int) != 0) = false := by rw [hm0]; rfl
              have HN := hide (show o = some (x.data.toList, 3) by rw [HX2.out, HS.out, hm0]; rfl)
              clear hm0
              go_wp2_with fail
              go_region
              all_goals
                go_wp2_with fail
                go_region
                all_goals
                  go_wp2_with fail
                  go_ret3
                  exact ⟨by rw [HN.out]; rfl, (Below.refl _ _).drew.drew⟩
            · have t1 : ((m : Int) != 0) = true := bne_iff_ne.2 (by omega)
              have HN := hide (show o = none by rw [HX2.out, HS.out, beq_false_of_ne hm0]; rfl)
              clear hm0
              go_wp2_with fail
              go_region
              all_goals
                go_wp2_with fail
                go_ret3
                exact ⟨by rw [HN.out]; rfl, (Below.refl _ _).drew⟩
          · have hcu : IntKind.i64.wrap ((4 : Nat) : Int) = 4 := rfl
            obtain ⟨m, hm⟩ : ∃ m, y.toNat % 16 = m := ⟨_, rfl⟩
            have hmi : (y.toNat : Int) % 16 = (m : Int) := by omega
            have hmt : (y.toNat : Int).tmod 16 = (m : Int) := by rw [Int.tmod_eq_emod_of_nonneg (by omega)]; exact hmi
            have hmy : IntKind.i64.wrap (y.toNat : Int) = (y.toNat : Int) := IntWalk.i64_in _ (by omega)
            have hmb : m < 256 := by omega
            have hmm : IntKind.i64.wrap (m : Int) = (m : Int) := IntWalk.i64_in _ (by omega)
            have HS := hide (HSPL.out 4 m (by omega) hm)
            clear hm
            by_cases hm0 : m = 0
            · have t1 : ((m : Int) != 0) = false := by rw [hm0]; rfl
              have HN := hide (show o = some (x.data.toList, 4) by rw [HX2.out, HS.out, hm0]; rfl)
              clear hm0
              go_wp2_with fail
              go_region
              all_goals
                go_wp2_with fail
                go_region
                all_goals
                  go_wp2_with fail
                  go_ret3
                  exact ⟨by rw [HN.out]; rfl, (Below.refl _ _).drew.drew⟩
            · have t1 : ((m : Int) != 0) = true := bne_iff_ne.2 (by omega)
              have HN := hide (show o = none by rw [HX2.out, HS.out, beq_false_of_ne hm0]; rfl)
              clear hm0
              go_wp2_with fail
              go_region
              all_goals
                go_wp2_with fail
                go_ret3
                exact ⟨by rw [HN.out]; rfl, (Below.refl _ _).drew⟩
          · have hcu : IntKind.i64.wrap ((5 : Nat) : Int) = 5 := rfl
            obtain ⟨m, hm⟩ : ∃ m, y.toNat % 32 = m := ⟨_, rfl⟩
            have hmi : (y.toNat : Int) % 32 = (m : Int) := by omega
            have hmt : (y.toNat : Int).tmod 32 = (m : Int) := by rw [Int.tmod_eq_emod_of_nonneg (by omega)]; exact hmi
            have hmy : IntKind.i64.wrap (y.toNat : Int) = (y.toNat : Int) := IntWalk.i64_in _ (by omega)
            have hmb : m < 256 := by omega
            have hmm : IntKind.i64.wrap (m : Int) = (m : Int) := IntWalk.i64_in _ (by omega)
            have HS := hide (HSPL.out 5 m (by omega) hm)
            clear hm
            by_cases hm0 : m = 0
            · have t1 : ((m : Int) != 0) = false := by rw [hm0]; rfl
              have HN := hide (show o = some (x.data.toList, 5) by rw [HX2.out, HS.out, hm0]; rfl)
              clear hm0
              go_wp2_with fail
              go_region
              all_goals
                go_wp2_with fail
                go_region
                all_goals
                  go_wp2_with fail
                  go_ret3
                  exact ⟨by rw [HN.out]; rfl, (Below.refl _ _).drew.drew⟩
            · have t1 : ((m : Int) != 0) = true := bne_iff_ne.2 (by omega)
              have HN := hide (show o = none by rw [HX2.out, HS.out, beq_false_of_ne hm0]; rfl)
              clear hm0
              go_wp2_with fail
              go_region
              all_goals
                go_wp2_with fail
                go_ret3
                exact ⟨by rw [HN.out]; rfl, (Below.refl _ _).drew⟩
          · have hcu : IntKind.i64.wrap ((6 : Nat) : Int) = 6 := rfl
            obtain ⟨m, hm⟩ : ∃ m, y.toNat % 64 = m := ⟨_, rfl⟩
            have hmi : (y.toNat : Int) % 64 = (m : Int) := by omega
            have hmt : (y.toNat : Int).tmod 64 = (m : Int) := by rw [Int.tmod_eq_emod_of_nonneg (by omega)]; exact hmi
            have hmy : IntKind.i64.wrap (y.toNat : Int) = (y.toNat : Int) := IntWalk.i64_in _ (by omega)
            have hmb : m < 256 := by omega
            have hmm : IntKind.i64.wrap (m : Int) = (m : Int) := IntWalk.i64_in _ (by omega)
            have HS := hide (HSPL.out 6 m (by omega) hm)
            clear hm
            by_cases hm0 : m = 0
            · have t1 : ((m : Int) != 0) = false := by rw [hm0]; rfl
              have HN := hide (show o = some (x.data.toList, 6) by rw [HX2.out, HS.out, hm0]; rfl)
              clear hm0
              go_wp2_with fail
              go_region
              all_goals
                go_wp2_with fail
                go_region
                all_goals
                  go_wp2_with fail
                  go_ret3
                  exact ⟨by rw [HN.out]; rfl, (Below.refl _ _).drew.drew⟩
            · have t1 : ((m : Int) != 0) = true := bne_iff_ne.2 (by omega)
              have HN := hide (show o = none by rw [HX2.out, HS.out, beq_false_of_ne hm0]; rfl)
              clear hm0
              go_wp2_with fail
              go_region
              all_goals
                go_wp2_with fail
                go_ret3
                exact ⟨by rw [HN.out]; rfl, (Below.refl _ _).drew⟩
          · have hcu : IntKind.i64.wrap ((7 : Nat) : Int) = 7 := rfl
            obtain ⟨m, hm⟩ : ∃ m, y.toNat % 128 = m := ⟨_, rfl⟩
            have hmi : (y.toNat : Int) % 128 = (m : Int) := by omega
            have hmt : (y.toNat : Int).tmod 128 = (m : Int) := by rw [Int.tmod_eq_emod_of_nonneg (by omega)]; exact hmi
            have hmy : IntKind.i64.wrap (y.toNat : Int) = (y.toNat : Int) := IntWalk.i64_in _ (by omega)
            have hmb : m < 256 := by omega
            have hmm : IntKind.i64.wrap (m : Int) = (m : Int) := IntWalk.i64_in _ (by omega)
            have HS := hide (HSPL.out 7 m (by omega) hm)
            clear hm
            by_cases hm0 : m = 0
            · have t1 : ((m : Int) != 0) = false := by rw [hm0]; rfl
              have HN := hide (show o = some (x.data.toList, 7) by rw [HX2.out, HS.out, hm0]; rfl)
              clear hm0
              go_wp2_with fail
              go_region
              all_goals
                go_wp2_with fail
                go_region
                all_goals
                  go_wp2_with fail
                  go_ret3
                  exact ⟨by rw [HN.out]; rfl, (Below.refl _ _).drew.drew⟩
            · have t1 : ((m : Int) != 0) = true := bne_iff_ne.2 (by omega)
              have HN := hide (show o = none by rw [HX2.out, HS.out, beq_false_of_ne hm0]; rfl)
              clear hm0
              go_wp2_with fail
              go_region
              all_goals
                go_wp2_with fail
                go_ret3
                exact ⟨by rw [HN.out]; rfl, (Below.refl _ _).drew⟩
end Go.Proofs.YtbafpgdmnkkclaaDoor
