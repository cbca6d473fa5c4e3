/- SameExtensions of one list that lies twice in memory; ShortExtensions. -/
import Derived.Test.YtiikpdjjhnhiiaaDoorExtM
namespace Go.Proofs.YtiikpdjjhnhiiaaDoor
open Go.RowKit

theorem neq_ext (ta va : ByteArray) (k : Bool) (W : World) : (binOp .neq 49 (.agg #[.string ta, .bool k, .string va]) (.agg #[.string ta, .bool k, .string va])).run Tryd.prog W = .ok (.bool false) W := by
  have h0 := Tryd.underlying9
  have h1 := Tryd.underlying4
  have h2 := Tryd.underlying49
  have hp : Program.stoodInHeld Tryd.prog 49 = false := by kernel_rfl
  have hf : Program.fieldsOf Tryd.prog 49 = _ := rfl
  go_simp

set_option maxRecDepth 100000 in
set_option maxHeartbeats 8000000 in
theorem Same_same (n : List Ext) (A B : Option Addr) (c d : Nat) (w : World) (h : Sl RExt 3 w (Lt w.heap.size) n [.slice A n.length c]) (h2 : Sl RExt 3 w (Lt w.heap.size) n [.slice B n.length d]) :
    Calls Tryd.prog 32 #[.slice A n.length c, .slice B n.length d] w fun e w' => e = .returned (.bool true) ∧ Below w.heap.size w w' := by
  obtain ⟨-, hnc, hcm⟩ := h.len_
  obtain ⟨-, hnc2, hcm2⟩ := h2.len_
  unfold maxLen at hcm hcm2
  have K := hide h
  have K2 := hide h2
  have t0 : ((n.length : Int) != (n.length : Int)) = false := by simp
  clear h h2
  go_enter Tryd.func32, Tryd.ntmps32
  go_wp2_with fail
  clear t0
  go_loopw [13] (fun i wr => ∃ k : Nat, k ≤ n.length ∧ i = .int .i64 k ∧ Below w.heap.size w wr) (fun i _ => n.length - (intOf i).toNat)
  case atStart => exact ⟨0, by omega, rfl, Below.refl _ _⟩
  case round =>
    obtain ⟨k, hk, rfl, hb⟩ := hrel
    by_cases hlt : k < n.length
    · obtain ⟨b3, o3, hA3, hbS3, f0, f1, f2⟩ := K.out.extAt hlt
      obtain ⟨b4, o4, hA4, hbS4, g0, g1, g2⟩ := K2.out.extAt hlt
      subst hA3 hA4
      have hbS3' : b3 < w.heap.size := hbS3
      have hbS4' : b4 < w.heap.size := hbS4
      obtain ⟨⟨ti, kk, vi⟩, hel⟩ : ∃ e, n[k] = e := ⟨_, rfl⟩
      rw [hel] at f0 f1 f2 g0 g1 g2
      simp only at f0 f1 f2 g0 g1 g2
      obtain ⟨ta, hta⟩ : ∃ x : ByteArray, x = ⟨ti.toArray⟩ := ⟨_, rfl⟩
      obtain ⟨va, hva⟩ : ∃ x : ByteArray, x = ⟨vi.toArray⟩ := ⟨_, rfl⟩
      rw [← hta] at f0 g0
      rw [← hva] at f2 g2
      have f0' : wr.cell? ⟨b3, o3 + k * 3, none⟩ = some (.string ta) := (hb.cell (p := ⟨b3, o3 + k * 3, none⟩) hbS3').trans f0
      have f1' : wr.cell? ⟨b3, o3 + k * 3 + 1, none⟩ = some (.bool kk) := (hb.cell (p := ⟨b3, o3 + k * 3 + 1, none⟩) hbS3').trans f1
      have f2' : wr.cell? ⟨b3, o3 + k * 3 + 2, none⟩ = some (.string va) := (hb.cell (p := ⟨b3, o3 + k * 3 + 2, none⟩) hbS3').trans f2
      have g0' : wr.cell? ⟨b4, o4 + k * 3, none⟩ = some (.string ta) := (hb.cell (p := ⟨b4, o4 + k * 3, none⟩) hbS4').trans g0
      have g1' : wr.cell? ⟨b4, o4 + k * 3 + 1, none⟩ = some (.bool kk) := (hb.cell (p := ⟨b4, o4 + k * 3 + 1, none⟩) hbS4').trans g1
      have g2' : wr.cell? ⟨b4, o4 + k * 3 + 2, none⟩ = some (.string va) := (hb.cell (p := ⟨b4, o4 + k * 3 + 2, none⟩) hbS4').trans g2
      have hj0 : (0 : Int) ≤ (k : Int) := by omega
      have hjr : (k : Int) < (n.length : Int) := by omega
      have hneq := neq_ext ta va kk
      have HBI := hide hb
      clear f0 f1 f2 g0 g1 g2 hel hta hva hb
      go_wp2_with fail
      go_quiet (fail)
      go_wp2_with fail
      go_roundw
      case rel => exact ⟨k + 1, by omega, by go_num, below_drewN HBI.out _⟩
      case measure => simp [intOf]; omega
    · go_wp2_with fail
      go_ret
      exact ⟨rfl, hb⟩

def ShortPost (l : List Ext) (w : World) (e : Ending) (w' : World) : Prop := ∃ b, e = .returned (.bool b) ∧ (b = true → SmallX l ∧ l.length ≤ 30) ∧ Below w.heap.size w w'
theorem ShortPost.no {l : List Ext} {w w' : World} (h : Below w.heap.size w w') : ShortPost l w (.returned (.bool false)) w' := ⟨false, rfl, (fun h => by cases h), h⟩
theorem ShortPost.yes {l : List Ext} {w w' : World} (h : Below w.heap.size w w') (h2 : SmallX l ∧ l.length ≤ 30) : ShortPost l w (.returned (.bool true)) w' := ⟨true, rfl, fun _ => h2, h⟩

set_option maxRecDepth 100000 in
set_option maxHeartbeats 4000000 in
theorem Short_any (l : List Ext) (A : Option Addr) (c : Nat) (w : World) (h : Sl RExt 3 w (Lt w.heap.size) l [.slice A l.length c]) :
    Calls Tryd.prog 34 #[.slice A l.length c] w (ShortPost l w) := by
  obtain ⟨-, hnc, hcm⟩ := h.len_
  unfold maxLen at hcm
  have K := hide h
  clear h
  by_cases h30 : 30 < l.length
  · go_enter Tryd.func34, Tryd.ntmps34
    go_wp2_with fail
    go_ret
    exact ShortPost.no (Below.refl _ _)
  · have H0 := hide (show ∀ i (h : i < l.length), i < 0 → l[i].1.length ≤ 1000000 ∧ l[i].2.2.length ≤ 1000000 from fun i h h0 => by omega)
    go_enter Tryd.func34, Tryd.ntmps34
    go_wp2_with fail
    go_loopw [10] (fun i wr => ∃ k : Nat, k ≤ l.length ∧ i = .int .i64 k ∧ Below w.heap.size w wr ∧ Hid (∀ i (h : i < l.length), i < k → l[i].1.length ≤ 1000000 ∧ l[i].2.2.length ≤ 1000000)) (fun i _ => l.length - (intOf i).toNat)
    case atStart => exact ⟨0, by omega, rfl, Below.refl _ _, H0⟩
    case round =>
      obtain ⟨k, hk, rfl, hb, H⟩ := hrel
      have HB := hide hb
      by_cases hlt : k < l.length
      · obtain ⟨b, off, hA, hbS, e0, e1, e2⟩ := K.out.extAt hlt
        subst hA
        have HN := hide (fun (h : l[k].1.length ≤ 1000000 ∧ l[k].2.2.length ≤ 1000000) => (show ∀ i (h : i < l.length), i < k + 1 → l[i].1.length ≤ 1000000 ∧ l[i].2.2.length ≤ 1000000 from fun i hi hik => by
          rcases Nat.lt_or_ge i k with h1 | h1
          · exact H.out i hi h1
          · obtain rfl : i = k := by omega
            exact h))
        obtain ⟨⟨id, cr, va⟩, hel⟩ : ∃ e, l[k] = e := ⟨_, rfl⟩
        rw [hel] at e0 e1 e2 HN
        simp only at e0 e1 e2
        obtain ⟨x1, hx1⟩ : ∃ x : ByteArray, x = ⟨id.toArray⟩ := ⟨_, rfl⟩
        obtain ⟨x2, hx2⟩ : ∃ x : ByteArray, x = ⟨va.toArray⟩ := ⟨_, rfl⟩
        have hz1 : x1.size = id.length := by rw [hx1, ba_mk]
        have hz2 : x2.size = va.length := by rw [hx2, ba_mk]
        rw [← hx1] at e0
        rw [← hx2] at e2
        have hbS' : b < w.heap.size := hbS
        have p0 := (hb.cell (p := ⟨b, off + k * 3, none⟩) hbS').trans e0
        have p1 := (hb.cell (p := ⟨b, off + k * 3 + 1, none⟩) hbS').trans e1
        have p2 := (hb.cell (p := ⟨b, off + k * 3 + 2, none⟩) hbS').trans e2
        have HZ1 := hide hz1
        have HZ2 := hide hz2
        clear e0 e1 e2 hx1 hx2 hel hb hz1 hz2
        have hzr := HB.out.size
        obtain ⟨wo, rfl⟩ : ∃ wo : World, wo = wr := ⟨_, rfl⟩
        go_upto_region 6 with fail
        obtain ⟨wB, hwB⟩ : ∃ W, W = wo.alloc (.cells #[.string x1, .bool cr, .string x2] 49) := ⟨_, rfl⟩
        have q0 : wB.cell? ⟨wo.heap.size, 0, none⟩ = some (.string x1) := by rw [hwB, World.cell?_alloc_new]; rfl
        have q2 : wB.cell? ⟨wo.heap.size, 2, none⟩ = some (.string x2) := by rw [hwB, World.cell?_alloc_new]; rfl
        have HBB := hide (show Below w.heap.size w wB by rw [hwB]; exact HB.out.alloc (by omega) _)
        rw [← hwB]
        clear hwB p0 p1 p2
        by_cases h1 : 200 < x1.size
        · have h1i : (200 : Int) < (x1.size : Int) := by omega
          clear h1
          go_wp2_with fail
          go_ret
          exact ShortPost.no HBB.out
        · have h1i : ¬ (200 : Int) < (x1.size : Int) := by omega
          by_cases h2 : 300 < x2.size
          · have h2i : (300 : Int) < (x2.size : Int) := by omega
            clear h1 h2
            go_wp2_with fail
            go_ret
            exact ShortPost.no HBB.out
          · have h2i : ¬ (300 : Int) < (x2.size : Int) := by omega
            have HM := hide (HN.out ⟨by have := HZ1.out; show id.length ≤ _; omega, by have := HZ2.out; show va.length ≤ _; omega⟩)
            clear h1 h2
            go_wp2_with fail
            go_roundw
            case rel => exact ⟨k + 1, by omega, by go_num, HBB.out, HM⟩
            case measure => simp [intOf]; omega
      · have hkl : k = l.length := by omega
        clear hb
        go_wp2_with fail
        go_ret
        exact ShortPost.yes HB.out ⟨fun x hx => by
          obtain ⟨i, hi, rfl⟩ := List.mem_iff_getElem.1 hx
          exact H.out i hi (by omega), by omega⟩
end Go.Proofs.YtiikpdjjhnhiiaaDoor
