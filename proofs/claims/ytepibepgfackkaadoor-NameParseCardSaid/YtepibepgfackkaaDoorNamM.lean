/- The law NameParse, its walk. -/
import Derived.Test.YtepibepgfackkaaDoorNamT
import Derived.Test.YtepibepgfackkaaDoorNamJ
import Derived.Test.YtepibepgfackkaaDoorNamK
namespace Go.Proofs.YtepibepgfackkaaDoor
open Go.RowKit

def nTab : List (List UInt8) := [[67, 78, 61], [79, 61], [68, 67, 61], [69, 61], [50, 46, 53, 46, 52, 46, 51, 61], [50, 46, 53, 46, 52, 46, 57, 57, 61], [49, 46, 52, 48, 61], [99, 110, 61], [44], [44], [43], [97], [65, 110, 110], [32], [92, 50, 99], [92, 50, 67], [195, 169], [92, 99, 51, 92, 97, 57], [61], [79, 85, 61, 120], [67, 61, 85, 83]]
def nAt (m : Nat) : List UInt8 := nTab.getD m []
theorem nAt_len (m : Nat) (h : m < 21) : (nAt m).length ≤ 9 := by
  have : ∀ n : Fin 21, (nAt n.1).length ≤ 9 := by decide
  exact this ⟨m, h⟩
theorem n_get (m : Nat) (h : m < 21) : (nTab.map fun l => Value.string ⟨l.toArray⟩)[m]? = some (.string ⟨(nAt m).toArray⟩) := by
  rw [List.getElem?_map, List.getElem?_eq_getElem (by exact h)]
  simp [nAt, List.getD, List.getElem?_eq_getElem (show m < nTab.length from h)]
  rfl
theorem rParse_c (s : ByteArray) (hs : s.size ≤ 100000) (k : Int) (n : Name) (hp : parseP s.data.toList = (k, n)) (w : World) (hmx : Mx w) :
    Calls Tryd.prog 23 #[.string s] w fun e w' => ∃ A c, e = .returned (.tuple #[.agg #[.slice A n.length c], .int .i64 k]) ∧ Sl RRdn 1 w' (Lt w'.heap.size) n [.slice A n.length c] ∧ Below w.heap.size w w' ∧ SmallN n := by
  refine (rParse_any s hs w hmx).mono fun e w' h => ?_
  rw [hp] at h
  obtain ⟨v, he, hsl, hb, hsm⟩ := h
  obtain ⟨A, c, hv⟩ := hsl.shape
  subst hv
  exact ⟨A, c, he, hsl, hb, hsm⟩


set_option maxRecDepth 100000 in
set_option maxHeartbeats 8000000 in
theorem NameParse_any (s : ByteArray) (hsm : s.size ≤ maxLen) (l : List UInt8) (A : Option Addr) (n c : Nat) (w : World) (hmx : Mx w) (h : Sl RByte 1 w (Lt w.heap.size) l [.slice A n c]) :
    Calls Tryd.prog 6 #[.string s, .slice A n c] w fun e w' => e = .returned (.bool true) ∧ Below w.heap.size w w' := by
  obtain ⟨rfl, hnc, hcm⟩ := h.len_
  unfold maxLen at hcm hsm
  have HMX := hide hmx
  have K := hide h
  clear hmx h
  by_cases hs : s.size ≤ 200
  · have hs' : ¬ 200 < s.size := by omega
    go_enter Tryd.func6, Tryd.ntmps6
    go_wp2_with fail
    go_loopw [5, 6] (fun v i wr => ∃ (k : Nat) (o : ByteArray), k ≤ l.length ∧ k ≤ 30 ∧ o.size ≤ 9 * k ∧ v = .string o ∧ i = .int .i64 k ∧ Below w.heap.size w wr) (fun _ i _ => 30 - (intOf i).toNat)
    case atStart => exact ⟨0, _, Nat.zero_le _, Nat.zero_le _, by decide, rfl, rfl, Below.refl _ _⟩
    case round =>
      obtain ⟨k, o, hk, hk30, hol, rfl, rfl, hb⟩ := hrel
      have hgs : w.heap.size ≤ wr.heap.size := hb.size
      by_cases hlt : k < l.length
      · by_cases hlt2 : k < 30
        · obtain ⟨b, off, xs, hA, hbS, hx, hcell⟩ := K.out.at_ hlt
          obtain ⟨d, hd⟩ : ∃ d, d = l[k] := ⟨_, rfl⟩
          rw [← hd] at hx
          have hc0 := hcell 0 (.int .u8 (d.toNat : Int)) (by rw [show xs = byteC d from hx]; rfl)
          rw [Nat.mul_one, Nat.add_zero] at hc0
          have hbS' : b < w.heap.size := hbS
          have hca : ∀ ob, (wr.alloc ob).cell? ⟨b, off + k, none⟩ = some (.int .u8 (d.toNat : Int)) := fun ob => by
            rw [World.cell?_alloc_lt _ _ _ (by show b < _; omega), hb.cell hbS', hc0]
          have hdb := byte_lt d
          obtain ⟨m, hm⟩ : ∃ m : Nat, m = d.toNat % 21 := ⟨_, rfl⟩
          have hm21 : (m : Int) < 21 := by omega
          have hm0 : (0 : Int) ≤ (m : Int) := by omega
          have hmi : (d.toNat : Int) % 21 = (m : Int) := by omega
          have hpg := n_get m (by omega)
          have hpl := nAt_len m (by omega)
          obtain ⟨y, hy⟩ : ∃ y : ByteArray, y = ⟨(nAt m).toArray⟩ := ⟨_, rfl⟩
          have hys : y.size ≤ 9 := by rw [hy]; exact hpl
          rw [← hy] at hpg
          have hpl2 : (([.string ⟨#[67, 78, 61]⟩, .string ⟨#[79, 61]⟩, .string ⟨#[68, 67, 61]⟩, .string ⟨#[69, 61]⟩, .string ⟨#[50, 46, 53, 46, 52, 46, 51, 61]⟩, .string ⟨#[50, 46, 53, 46, 52, 46, 57, 57, 61]⟩, .string ⟨#[49, 46, 52, 48, 61]⟩, .string ⟨#[99, 110, 61]⟩, .string ⟨#[44]⟩, .string ⟨#[44]⟩, .string ⟨#[43]⟩, .string ⟨#[97]⟩, .string ⟨#[65, 110, 110]⟩, .string ⟨#[32]⟩, .string ⟨#[92, 50, 99]⟩, .string ⟨#[92, 50, 67]⟩, .string ⟨#[195, 169]⟩, .string ⟨#[92, 99, 51, 92, 97, 57]⟩, .string ⟨#[61]⟩, .string ⟨#[79, 85, 61, 120]⟩, .string ⟨#[67, 61, 85, 83]⟩] : List Value))[m]? = some (.string y) := hpg
          have hpl3 : (([.string ⟨#[67, 78, 61]⟩, .string ⟨#[79, 61]⟩, .string ⟨#[68, 67, 61]⟩, .string ⟨#[69, 61]⟩, .string ⟨#[50, 46, 53, 46, 52, 46, 51, 61]⟩, .string ⟨#[50, 46, 53, 46, 52, 46, 57, 57, 61]⟩, .string ⟨#[49, 46, 52, 48, 61]⟩, .string ⟨#[99, 110, 61]⟩, .string ⟨#[44]⟩, .string ⟨#[44]⟩, .string ⟨#[43]⟩, .string ⟨#[97]⟩, .string ⟨#[65, 110, 110]⟩, .string ⟨#[32]⟩, .string ⟨#[92, 50, 99]⟩, .string ⟨#[92, 50, 67]⟩, .string ⟨#[195, 169]⟩, .string ⟨#[92, 99, 51, 92, 97, 57]⟩, .string ⟨#[61]⟩, .string ⟨#[79, 85, 61, 120]⟩, .string ⟨#[67, 61, 85, 83]⟩] : List Value)).toArray[m]? = some (.string y) := by rw [List.getElem?_toArray]; exact hpg
          subst hA
          have HB := hide hb
          clear hpg hcell hx hd hy hm hc0 hpl hb
          go_wp2_with fail
          go_roundw
          case rel => exact ⟨k + 1, o ++ y, by omega, by omega, by rw [ba_size]; omega, rfl, by go_num, HB.out.alloc hgs _⟩
          case measure => simp [intOf]; omega
        · have HB := hide hb
          obtain ⟨wp, rfl⟩ : ∃ wp : World, wp = wr := ⟨_, rfl⟩
          obtain ⟨x3, hx3⟩ : ∃ x3, x3 = (⟨#[79, 61, 120, 44]⟩ : ByteArray) ++ o := ⟨_, rfl⟩
          have hx32 : (⟨#[79, 61, 120, 44]⟩ : ByteArray) ++ o = x3 := hx3.symm
          have hx3s : x3.size ≤ 1000 := by rw [hx3, ba_size]; show 4 + o.size ≤ 1000; omega
          have hs4 : (⟨#[79, 61, 120, 44]⟩ : ByteArray).size = 4 := rfl
          have hbs : ¬ 9223372036854775807 < 4 + o.size := by omega
          clear hx3 hb
          go_wp2_with fail
          clear hx32 hs4 hbs
          obtain ⟨W0, hW0⟩ : ∃ W0, W0 = wp.alloc (.cells #[.string s, .string o, .string x3] 9) := ⟨_, rfl⟩
          have hcells : ∀ k, k < 3 → ∃ x : ByteArray, x.size ≤ 1000 ∧ W0.cell? ⟨wp.heap.size, k, none⟩ = some (.string x) := fun k hk => by
            rw [hW0, World.cell?_alloc_new]
            match k, hk with
            | 0, _ => exact ⟨_, by omega, rfl⟩
            | 1, _ => exact ⟨_, by omega, rfl⟩
            | 2, _ => exact ⟨_, by omega, rfl⟩
          have hb0 : Below w.heap.size w W0 := by rw [hW0]; exact HB.out.alloc HB.out.size _
          have hz0 : W0.heap.size = wp.heap.size + 1 := by rw [hW0]; simp
          rw [← hW0]
          have HC := hide hcells
          have HB0 := hide hb0
          have HZ0 := hide hz0
          clear hcells hb0 hz0 hW0
          go_loopw [43] (fun i wr => ∃ k : Nat, k ≤ 3 ∧ i = .int .i64 k ∧ Below W0.heap.size W0 wr) (fun i _ => 3 - (intOf i).toNat)
          case atStart => exact ⟨0, by omega, rfl, Below.refl _ _⟩
          case round =>
            obtain ⟨k3, hk3, rfl, hb⟩ := hrel
            have hbw := HB0.out.trans (hb.mono HB0.out.size)
            have HBW := hide hbw
            by_cases hlt3 : k3 < 3
            · obtain ⟨x, hxs, hc⟩ := HC.out k3 hlt3
              have hc' : wr.cell? ⟨wp.heap.size, k3, none⟩ = some (.string x) := (hb.cell (p := ⟨wp.heap.size, k3, none⟩) (show wp.heap.size < W0.heap.size by have := HZ0.out; omega)).trans hc
              obtain ⟨⟨er, n⟩, hp⟩ : ∃ p, parseP x.data.toList = p := ⟨_, rfl⟩
              have PA := hide (fun W h => Parse_c x (by omega) er n hp W h)
              have PB := hide (fun W h => rParse_c x (by omega) er n hp W h)
              have HM := hide (HMX.out.below hbw)
              have HB := hide hb
              have tt : (er != er) = false := by simp
              clear hb hbw hc hp
              go_wp2_with fail
              refine (PA.out _ HM.out).mono ?_
              rintro e w1 ⟨A1, c1, rfl, hsl1, hb1, -⟩
              have hba : Below wr.heap.size wr (w1.alloc (.cells #[.slice A1 n.length c1] 24)) := hb1.alloc hb1.size _
              have HBA := hide hba
              have HM1 := hide (HM.out.below hba)
              have HS1 := hide ((Sl.ok RRdn.ok).below hsl1 ((Below.refl w1.heap.size w1).alloc (Nat.le_refl _) (.cells #[.slice A1 n.length c1] 24)))
              clear hba hb1 hsl1 hc'
              go_wp2_with fail
              refine (PB.out _ HM1.out).mono ?_
              rintro e w2 ⟨A2, c2, rfl, hsl2, hb2, -⟩
              have q1 := cellN (i := 0) hb2 rfl
              have hgl : w1.heap.size < w2.heap.size := by have := hb2.size; simp at this; omega
              have q2 : ∀ ob, (w2.alloc ob).cell? ⟨w1.heap.size, 0, none⟩ = some (.slice A1 n.length c1) := fun ob => (World.cell?_alloc_lt w2 ob ⟨w1.heap.size, 0, none⟩ hgl).trans q1
              have HS2 := hide ((Sl.ok RRdn.ok).below HS1.out hb2)
              have hb3 := (Below.refl w2.heap.size w2).alloc (Nat.le_refl _) (.cells #[.slice A2 n.length c2] 24)
              have HS3 := hide ((Sl.ok RRdn.ok).below HS2.out hb3)
              have HT3 := hide ((Sl.ok RRdn.ok).below hsl2 hb3)
              have HB2 := hide ((HBA.out.trans (hb2.mono HBA.out.size)).trans (hb3.mono (HBA.out.trans (hb2.mono HBA.out.size)).size))
              clear hb2 hsl2 hb3 q1
              go_wp2_with fail
              refine (Exact_same n A1 A2 c1 c2 _ HS3.out HT3.out).mono ?_
              rintro e w4 ⟨rfl, hb4⟩
              have HB4 := hide (HB2.out.trans (hb4.mono HB2.out.size))
              clear hb4 q2
              go_wp2_with fail
              go_roundw
              case rel => exact ⟨k3 + 1, by omega, by go_num, HB.out.trans (HB4.out.mono HB.out.size)⟩
              case measure => simp [intOf]; omega
            · clear hb hbw
              go_wp2_with fail
              refine (nawake_any _ (HMX.out.below HBW.out)).mono ?_
              rintro e w3 ⟨rfl, hb3⟩
              go_wp2_with fail
              go_ret
              exact ⟨rfl, HBW.out.trans (hb3.mono HBW.out.size)⟩
      · have HB := hide hb
        obtain ⟨wp, rfl⟩ : ∃ wp : World, wp = wr := ⟨_, rfl⟩
        obtain ⟨x3, hx3⟩ : ∃ x3, x3 = (⟨#[79, 61, 120, 44]⟩ : ByteArray) ++ o := ⟨_, rfl⟩
        have hx32 : (⟨#[79, 61, 120, 44]⟩ : ByteArray) ++ o = x3 := hx3.symm
        have hx3s : x3.size ≤ 1000 := by rw [hx3, ba_size]; show 4 + o.size ≤ 1000; omega
        have hs4 : (⟨#[79, 61, 120, 44]⟩ : ByteArray).size = 4 := rfl
        have hbs : ¬ 9223372036854775807 < 4 + o.size := by omega
        clear hx3 hb
        go_wp2_with fail
        clear hx32 hs4 hbs
        obtain ⟨W0, hW0⟩ : ∃ W0, W0 = wp.alloc (.cells #[.string s, .string o, .string x3] 9) := ⟨_, rfl⟩
        have hcells : ∀ k, k < 3 → ∃ x : ByteArray, x.size ≤ 1000 ∧ W0.cell? ⟨wp.heap.size, k, none⟩ = some (.string x) := fun k hk => by
          rw [hW0, World.cell?_alloc_new]
          match k, hk with
          | 0, _ => exact ⟨_, by omega, rfl⟩
          | 1, _ => exact ⟨_, by omega, rfl⟩
          | 2, _ => exact ⟨_, by omega, rfl⟩
        have hb0 : Below w.heap.size w W0 := by rw [hW0]; exact HB.out.alloc HB.out.size _
        have hz0 : W0.heap.size = wp.heap.size + 1 := by rw [hW0]; simp
        rw [← hW0]
        have HC := hide hcells
        have HB0 := hide hb0
        have HZ0 := hide hz0
        clear hcells hb0 hz0 hW0
        go_loopw [43] (fun i wr => ∃ k : Nat, k ≤ 3 ∧ i = .int .i64 k ∧ Below W0.heap.size W0 wr) (fun i _ => 3 - (intOf i).toNat)
        case atStart => exact ⟨0, by omega, rfl, Below.refl _ _⟩
        case round =>
          obtain ⟨k3, hk3, rfl, hb⟩ := hrel
          have hbw := HB0.out.trans (hb.mono HB0.out.size)
          have HBW := hide hbw
          by_cases hlt3 : k3 < 3
          · obtain ⟨x, hxs, hc⟩ := HC.out k3 hlt3
            have hc' : wr.cell? ⟨wp.heap.size, k3, none⟩ = some (.string x) := (hb.cell (p := ⟨wp.heap.size, k3, none⟩) (show wp.heap.size < W0.heap.size by have := HZ0.out; omega)).trans hc
            obtain ⟨⟨er, n⟩, hp⟩ : ∃ p, parseP x.data.toList = p := ⟨_, rfl⟩
            have PA := hide (fun W h => Parse_c x (by omega) er n hp W h)
            have PB := hide (fun W h => rParse_c x (by omega) er n hp W h)
            have HM := hide (HMX.out.below hbw)
            have HB := hide hb
            have tt : (er != er) = false := by simp
            clear hb hbw hc hp
            go_wp2_with fail
            refine (PA.out _ HM.out).mono ?_
            rintro e w1 ⟨A1, c1, rfl, hsl1, hb1, -⟩
            have hba : Below wr.heap.size wr (w1.alloc (.cells #[.slice A1 n.length c1] 24)) := hb1.alloc hb1.size _
            have HBA := hide hba
            have HM1 := hide (HM.out.below hba)
            have HS1 := hide ((Sl.ok RRdn.ok).below hsl1 ((Below.refl w1.heap.size w1).alloc (Nat.le_refl _) (.cells #[.slice A1 n.length c1] 24)))
            clear hba hb1 hsl1 hc'
            go_wp2_with fail
            refine (PB.out _ HM1.out).mono ?_
            rintro e w2 ⟨A2, c2, rfl, hsl2, hb2, -⟩
            have q1 := cellN (i := 0) hb2 rfl
            have hgl : w1.heap.size < w2.heap.size := by have := hb2.size; simp at this; omega
            have q2 : ∀ ob, (w2.alloc ob).cell? ⟨w1.heap.size, 0, none⟩ = some (.slice A1 n.length c1) := fun ob => (World.cell?_alloc_lt w2 ob ⟨w1.heap.size, 0, none⟩ hgl).trans q1
            have HS2 := hide ((Sl.ok RRdn.ok).below HS1.out hb2)
            have hb3 := (Below.refl w2.heap.size w2).alloc (Nat.le_refl _) (.cells #[.slice A2 n.length c2] 24)
            have HS3 := hide ((Sl.ok RRdn.ok).below HS2.out hb3)
            have HT3 := hide ((Sl.ok RRdn.ok).below hsl2 hb3)
            have HB2 := hide ((HBA.out.trans (hb2.mono HBA.out.size)).trans (hb3.mono (HBA.out.trans (hb2.mono HBA.out.size)).size))
            clear hb2 hsl2 hb3 q1
            go_wp2_with fail
            refine (Exact_same n A1 A2 c1 c2 _ HS3.out HT3.out).mono ?_
            rintro e w4 ⟨rfl, hb4⟩
            have HB4 := hide (HB2.out.trans (hb4.mono HB2.out.size))
            clear hb4 q2
            go_wp2_with fail
            go_roundw
            case rel => exact ⟨k3 + 1, by omega, by go_num, HB.out.trans (HB4.out.mono HB.out.size)⟩
            case measure => simp [intOf]; omega
          · clear hb hbw
            go_wp2_with fail
            refine (nawake_any _ (HMX.out.below HBW.out)).mono ?_
            rintro e w3 ⟨rfl, hb3⟩
            go_wp2_with fail
            go_ret
            exact ⟨rfl, HBW.out.trans (hb3.mono HBW.out.size)⟩
  · have hs' : 200 < s.size := by omega
    go_enter Tryd.func6, Tryd.ntmps6
    go_wp2_with fail
    refine (nawake_any _ HMX.out).mono ?_
    rintro e w3 ⟨rfl, hb3⟩
    go_wp2_with fail
    go_ret
    exact ⟨rfl, hb3⟩
end Go.Proofs.YtepibepgfackkaaDoor
