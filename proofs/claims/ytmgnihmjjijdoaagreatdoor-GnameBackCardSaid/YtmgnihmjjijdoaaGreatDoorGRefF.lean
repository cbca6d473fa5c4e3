/- The reference's Address, Range, AddressWithin. -/
import Derived.Test.YtmgnihmjjijdoaaGreatDoorGRefD
import Derived.Test.YtmgnihmjjijdoaaGreatDoorGHosI
import Derived.Deep.QuietTactic
import Derived.BigQuiet
import Derived.Test.YtmgnihmjjijdoaaGreatDoorGGnC
namespace Go.Proofs.YtmgnihmjjijdoaaGreatDoor
open Go.RowKit
theorem str_i (s : ByteArray) (i : Nat) (hi : i < s.size) (I : Int) (hI : I = i) : ∀ W : World, (Instr.index 9 (.string s) (.int .i64 I)).run Tryz.prog W = .ok (.int .u8 (s[i].toNat : Int)) W := fun W => by
 subst hI
 have h9 := run_index_string (P := Tryz.prog) (w := W) 9 s .i64 (i : Int) Tryz.underlying9
 rw [h9, dif_pos (by omega)]
 simp only [Int.toNat_natCast]
theorem bit_t (c r : Nat) : (((c : Int) / 2 ^ r).tmod 2 == 1) = (c / 2 ^ r % 2 == 1) := by
 have hx : ((c : Int) / 2 ^ r) = ((c / 2 ^ r : Nat) : Int) := by simp
 obtain ⟨n, hn⟩ : ∃ n, c / 2 ^ r = n := ⟨_, rfl⟩
 rw [hx, hn, Int.tmod_eq_emod_of_nonneg (Int.natCast_nonneg n), Bool.eq_iff_iff]
 simp only [beq_iff_eq]
 omega
set_option maxHeartbeats 4000000 in
theorem rrange_any (s : ByteArray) (hs : s.size ≤ 1000000) (q : Bool) (hq : rangeB s.data.toList = q) (w : World) :
  Calls Tryz.prog 85 #[.string s] w fun e w' => e = .returned (.bool q) ∧ Below w.heap.size w w' := by
 have hss := size_string s
 by_cases h8 : s.size = 8 ∨ s.size = 32
 ·obtain ⟨h, hh⟩ : ∃ h, h = s.size / 2 := ⟨_, rfl⟩
  have hh2 : s.size = 2 * h := by omega
  have hh16 : h ≤ 16 := by omega
  obtain ⟨a, ha⟩ : ∃ a, s.data.toList.take h = a := ⟨_, rfl⟩
  obtain ⟨m, hm⟩ : ∃ m, s.data.toList.drop h = m := ⟨_, rfl⟩
  have HQ := hide (show rgG a m (8 * h) 0 false = q by
   rw [← hq, rangeB, hss, ← ha, ← hm, ← hh, show s.size - h = h by omega]
   rcases h8 with h | h <;> simp [h])
  have HA := hide (fun (j : Nat) (hj : j < h) => (show ∃ c : UInt8, a.getD j 0 = c ∧ ∀ W : World, (Instr.index 9 (.string s) (.int .i64 (j : Int))).run Tryz.prog W = .ok (.int .u8 (c.toNat : Int)) W from
   ⟨s[j], by rw [← ha, List.getD_eq_getElem?_getD, List.getElem?_take, if_pos hj, List.getElem?_eq_getElem (by rw [hss]; omega)]; rfl, str_i s j (by omega) _ rfl⟩))
  have HM := hide (fun (j : Nat) (hj : j < h) => (show ∃ c : UInt8, m.getD j 0 = c ∧ ∀ W : World, (Instr.index 9 (.string s) (.int .i64 ((h : Int) + (j : Int)))).run Tryz.prog W = .ok (.int .u8 (c.toNat : Int)) W from
   ⟨s[h + j], by rw [← hm, List.getD_eq_getElem?_getD, List.getElem?_drop, List.getElem?_eq_getElem (by rw [hss]; omega)]; rfl, str_i s (h + j) (by omega) _ (by omega)⟩))
  have t1 : ((s.size : Int) != 8) = false ∨ ((s.size : Int) != 8) = true ∧ ((s.size : Int) != 32) = false := by
   rcases h8 with h | h
   ·left; rw [h]; rfl
   ·right; rw [h]; exact ⟨rfl, rfl⟩
  have hdv : (s.size : Int) / 2 = (h : Int) := by omega
  clear hq ha hm hh h8 hss
  rcases t1 with t1 | ⟨t1, t2⟩
  all_goals
   have HHD := hide hdv
   have HH2 := hide hh2
   clear hh2
   go_enter Tryz.func85, Tryz.ntmps85
   go_wp2_with fail
   clear t1 hdv
   go_loop [4, 5] (fun x4 x5 => ∃ (i : Nat) (ov : Bool), i ≤ 8 * h ∧ x4 = .bool ov ∧ x5 = .int .i64 i ∧ Hid (rgG a m (8 * h - i) i ov = q)) (fun _ x5 => 8 * h - (intOf x5).toNat)
   case atStart => exact ⟨0, false, by omega, rfl, rfl, HQ⟩
   case round =>
    obtain ⟨i, ov, hi, rfl, rfl, H⟩ := hrel
    by_cases hlt : i < 8 * h
    ·obtain ⟨j, r, hr, hij⟩ : ∃ j r, r < 8 ∧ i = 8 * j + r := ⟨i / 8, i % 8, by omega, by omega⟩
     have hjh : j < h := by omega
     obtain ⟨cm, hcm, ixm⟩ := HM.out j hjh
     obtain ⟨ca, hca, ixa⟩ := HA.out j hjh
     obtain ⟨I, hI⟩ : ∃ I : Int, I = (i : Int) := ⟨_, rfl⟩
     rw [← hI]
     have g1 : I / 8 = (j : Int) := by omega
     have g2 : I % 8 = (r : Int) := by omega
     have g3 : 0 ≤ I := by omega
     have g4 : I ≤ 8000 := by omega
     have g5 : I < 8 * (h : Int) := by omega
     have hc1 := byte_lt cm
     have hc2 := byte_lt ca
     have hr2 : (r : Int) < 8 := by omega
     obtain ⟨p1, hp1⟩ : ∃ p, bitAt m i = p := ⟨_, rfl⟩
     obtain ⟨p2, hp2⟩ : ∃ p, bitAt a i = p := ⟨_, rfl⟩
     have hb1 : (((cm.toNat : Int) / 2 ^ (7 - r)).tmod 2 == 1) = p1 := by
      rw [bit_t, ← hp1, bitAt, hij, show (8 * j + r) / 8 = j by omega, show (8 * j + r) % 8 = r by omega, hcm]
     have hb2 : (((ca.toNat : Int) / 2 ^ (7 - r)).tmod 2 == 1) = p2 := by
      rw [bit_t, ← hp2, bitAt, hij, show (8 * j + r) / 8 = j by omega, show (8 * j + r) % 8 = r by omega, hca]
     have HX := hide (show (if (p1 && ov) || (!p1 && p2) then false else rgG a m (8 * h - (i + 1)) (i + 1) (ov || !p1)) = q by
      rw [← H.out, show 8 * h - i = (8 * h - (i + 1)) + 1 by omega, rgG, hp1, hp2])
     have HI := hide hI
     have HN := hide (show I + 1 = ((i + 1 : Nat) : Int) by omega)
     clear hI hp1 hp2 hcm hca hij
     cases p1
     ·cases p2
      ·have HY := hide (show rgG a m (8 * h - (i + 1)) (i + 1) true = q by rw [← HX.out]; simp)
       cases ov
       all_goals
        go_wp2_with fail
        go_round
        case rel => exact ⟨i + 1, true, by omega, rfl, by rw [HN.out], HY⟩
        case measure => simp [intOf]; omega
      ·have HY := hide (show false = q by rw [← HX.out]; simp)
       cases ov
       all_goals
        go_wp2_with fail
        go_ret
        exact ⟨ret_bool HY.out, Below.refl _ _⟩
     ·cases ov
      ·have HY := hide (show rgG a m (8 * h - (i + 1)) (i + 1) false = q by rw [← HX.out]; simp)
       go_wp2_with fail
       go_round
       case rel => exact ⟨i + 1, false, by omega, rfl, by rw [HN.out], HY⟩
       case measure => simp [intOf]; omega
      ·have HY := hide (show false = q by rw [← HX.out]; simp)
       go_wp2_with fail
       go_ret
       exact ⟨ret_bool HY.out, Below.refl _ _⟩
    ·have HY := hide (show true = q by rw [← H.out, show 8 * h - i = 0 by omega, rgG])
     have hlti : ¬ (i : Int) < 8 * (h : Int) := by omega
     go_wp2_with fail
     go_ret
     exact ⟨ret_bool HY.out, Below.refl _ _⟩
 ·have t1 : ((s.size : Int) != 8) = true := by rw [bne_iff_ne]; omega
  have t2 : ((s.size : Int) != 32) = true := by rw [bne_iff_ne]; omega
  have HN := hide (show false = q by
   rw [← hq, rangeB, hss]
   have e1 : (s.size == 8) = false := by rw [beq_eq_false_iff_ne]; omega
   have e2 : (s.size == 32) = false := by rw [beq_eq_false_iff_ne]; omega
   rw [e1, e2]; rfl)
  clear hq h8
  go_enter Tryz.func85, Tryz.ntmps85
  go_wp2_with fail
  go_ret
  exact ⟨ret_bool HN.out, Below.refl _ _⟩
end Go.Proofs.YtmgnihmjjijdoaaGreatDoor
namespace Go.Proofs.YtmgnihmjjijdoaaGreatDoor
open Go.RowKit
set_option maxHeartbeats 1000000 in
theorem raddr_any (s : ByteArray) (q : Bool) (hq : addrB s.data.toList = q) (w : World) : Calls Tryz.prog 86 #[.string s] w fun e w' => e = .returned (.bool q) ∧ w = w' := by
 have hss := size_string s
 rw [addrB, hss] at hq
 by_cases h4 : s.size = 4
 ·have t1 : ((s.size : Int) == 4) = true := by rw [h4]; rfl
  have HQ := hide (show true = q by rw [← hq, h4]; rfl)
  clear hq h4 hss
  go_enter Tryz.func86, Tryz.ntmps86
  go_wp2_with fail
  go_ret
  exact ⟨ret_bool HQ.out, rfl⟩
 ·have t1 : ((s.size : Int) == 4) = false := by rw [beq_eq_false_iff_ne]; omega
  by_cases h16 : s.size = 16
  ·have t2 : ((s.size : Int) == 16) = true := by rw [h16]; rfl
   have HQ := hide (show true = q by rw [← hq, h16]; rfl)
   clear hq h4 h16 hss
   go_enter Tryz.func86, Tryz.ntmps86
   go_wp2_with fail
   go_ret
   exact ⟨ret_bool HQ.out, rfl⟩
  ·have t2 : ((s.size : Int) == 16) = false := by rw [beq_eq_false_iff_ne]; omega
   have HQ := hide (show false = q by
    rw [← hq, show (s.size == 4) = false by rw [beq_eq_false_iff_ne]; exact h4, show (s.size == 16) = false by rw [beq_eq_false_iff_ne]; exact h16]; rfl)
   clear hq h4 h16 hss
   go_enter Tryz.func86, Tryz.ntmps86
   go_wp2_with fail
   go_ret
   exact ⟨ret_bool HQ.out, rfl⟩
end Go.Proofs.YtmgnihmjjijdoaaGreatDoor
namespace Go.Proofs.YtmgnihmjjijdoaaGreatDoor
open Go.RowKit
end Go.Proofs.YtmgnihmjjijdoaaGreatDoor
namespace Go.Proofs.YtmgnihmjjijdoaaGreatDoor
open Go.RowKit
end Go.Proofs.YtmgnihmjjijdoaaGreatDoor
namespace Go.Proofs.YtmgnihmjjijdoaaGreatDoor
open Go.RowKit
end Go.Proofs.YtmgnihmjjijdoaaGreatDoor
