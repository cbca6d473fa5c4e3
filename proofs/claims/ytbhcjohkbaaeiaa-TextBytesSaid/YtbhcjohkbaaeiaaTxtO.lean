/- The laws TextValid and TextBytes, their walks. -/
import Derived.Test.YtbhcjohkbaaeiaaTxtM
namespace Go.Proofs.Ytbhcjohkbaaeiaa
open Go.RowKit

theorem Valid_r (kind : Int) (s : ByteArray) (hs : s.size ≤ 1000000) (w : World) :
    Calls Try.prog 10 #[.int .i64 kind, .string s] w fun e w' => e = .returned (.bool (rvalidT kind s.data.toList)) ∧ Below w.heap.size w w' :=
  (Valid_any kind s hs w).mono fun e w' ⟨he, hb⟩ => ⟨by rw [he, valid_eq], hb⟩

set_option maxRecDepth 100000 in
set_option maxHeartbeats 4000000 in
theorem TextValid_any (kind : Int) (s : ByteArray) (hsm : s.size ≤ maxLen) (l : List UInt8) (A : Option Addr) (n c : Nat) (w : World) (h : Sl RByte 1 w (Lt w.heap.size) l [.slice A n c]) :
    Calls Try.prog 3 #[.int .i64 kind, .string s, .slice A n c] w fun e w' => e = .returned (.bool true) ∧ Below w.heap.size w w' := by
  have K := hide h
  clear h
  unfold maxLen at hsm
  by_cases hs : s.size ≤ 400
  · go_enter Try.func3, Try.ntmps3
    go_wp2_with fail
    go_loopw [18] (fun i wr => ∃ k : Nat, k ≤ 4 ∧ i = .int .i64 k ∧ Below (w.heap.size + 1) (w.alloc (.cells #[.int .i64 kind, .int .i64 12, .int .i64 19, .int .i64 22] 3)) wr) (fun i _ => 4 - (intOf i).toNat)
    case atStart => exact ⟨0, by omega, rfl, Below.refl _ _⟩
    case round =>
      obtain ⟨wo, rfl⟩ : ∃ wo : World, wo = wr := ⟨_, rfl⟩
      obtain ⟨k, hk, rfl, hb⟩ := hrel
      have HB0 := hide hb
      have hbw : Below w.heap.size w wo := ((Below.refl _ _).alloc (Nat.le_refl _) _).trans (hb.mono (by omega))
      have HBW := hide hbw
      have hsz := hbw.size
      by_cases hlt : k < 4
      · have hcell : ∃ z, wo.cell? ⟨w.heap.size, k, none⟩ = some (.int .i64 z) := by
          rw [hb.cell (show w.heap.size < w.heap.size + 1 by omega), World.cell?_alloc_new]
          match k, hlt with
          | 0, _ => exact ⟨_, rfl⟩
          | 1, _ => exact ⟨_, rfl⟩
          | 2, _ => exact ⟨_, rfl⟩
          | 3, _ => exact ⟨_, rfl⟩
        obtain ⟨z, hcell⟩ := hcell
        have HSL := hide ((Sl.ok RByte.ok).mono K.out (below_keeps hbw) (fun k hk => Nat.lt_of_lt_of_le hk hbw.size))
        clear hb hbw
        go_wp2_with fail
        refine (pieces_any l A n c _ HSL.out).mono ?_
        rintro e w2 ⟨rfl, hb2⟩
        have hpl := piecesG_len l
        obtain ⟨p, hp⟩ : ∃ p : ByteArray, p = ⟨(piecesG l).toArray⟩ := ⟨_, rfl⟩
        have hps : p.size ≤ 160 := by rw [hp]; exact hpl
        rw [← hp]
        clear hpl hp
        have hsz0 : w.heap.size + 1 ≤ wo.heap.size := by have := HB0.out.size; simpa using this
        have HBW2 := hide (HB0.out.trans (hb2.mono hsz0))
        have hsz2 := hb2.size
        clear hb2 hcell
        go_wp2_with fail
        go_loopw [27] (fun i wi => ∃ j : Nat, j ≤ 2 ∧ i = .int .i64 j ∧ Below (w2.heap.size + 1) (w2.alloc (.cells #[.string s, .string p] 9)) wi) (fun i _ => 2 - (intOf i).toNat)
        case atStart => exact ⟨0, by omega, rfl, Below.refl _ _⟩
        case round =>
          obtain ⟨j, hj, rfl, hbi⟩ := hrel
          have hbwi := HBW2.out.trans ((((Below.refl _ w2).alloc (Nat.le_refl _) _).trans (hbi.mono (by omega))).mono (by omega))
          have HBI := hide hbi
          have HBWI := hide hbwi
          by_cases hlt2 : j < 2
          · have hcell : ∃ x : ByteArray, x.size ≤ 400 ∧ wr.cell? ⟨w2.heap.size, j, none⟩ = some (.string x) := by
              rw [hbi.cell (show w2.heap.size < w2.heap.size + 1 by omega), World.cell?_alloc_new]
              match j, hlt2 with
              | 0, _ => exact ⟨s, hs, rfl⟩
              | 1, _ => exact ⟨p, by omega, rfl⟩
            obtain ⟨x, hxs, hcell⟩ := hcell
            have hsz3 := hbi.size
            simp only [World.size_alloc] at hsz3
            clear hbi hbwi
            go_wp2_with fail
            refine (Valid_r z x (by omega) _).mono ?_
            rintro e w3 ⟨rfl, hb3⟩
            have HB3 := hide hb3
            clear hb3 hcell
            obtain ⟨q, hq⟩ : ∃ q, rvalidT z x.data.toList = q := ⟨_, rfl⟩
            have HQ := hide hq
            rw [hq]
            clear hq
            go_wp2_with fail
            refine (rValid_any z x (by omega) _).mono ?_
            rintro e w4 ⟨rfl, rfl⟩
            rw [HQ.out]
            cases q
            all_goals
              go_wp2_with fail
              go_roundw
              case rel => exact ⟨j + 1, by omega, by go_num, HBI.out.trans (HB3.out.mono (by omega))⟩
              case measure => simp [intOf]; omega
          · clear hbi hbwi
            go_wp2_with fail
            go_roundw
            case rel => exact ⟨k + 1, by omega, by go_num, HBWI.out⟩
            case measure => simp [intOf]; omega
      · clear hb hbw
        go_wp2_with fail
        refine (awake_any _).mono ?_
        rintro e w3 ⟨rfl, hb3⟩
        go_wp2_with fail
        go_ret
        exact ⟨rfl, HBW.out.trans (hb3.mono hsz)⟩
  · go_enter Try.func3, Try.ntmps3
    go_wp2_with fail
    refine (awake_any _).mono ?_
    rintro e w3 ⟨rfl, hb3⟩
    go_wp2_with fail
    go_ret
    exact ⟨rfl, hb3⟩
end Go.Proofs.Ytbhcjohkbaaeiaa
