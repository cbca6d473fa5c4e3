/- The law TextBytes, its walk. -/
import Derived.Test.YtbhcjohkbaaeiaaTxtO
import Derived.Test.YtbhcjohkbaaeiaaLib2
namespace Go.Proofs.Ytbhcjohkbaaeiaa
open Go.RowKit

def byteTab : List UInt8 := [32, 126, 127, 128, 143, 144, 159, 160, 191, 193, 194, 223, 224, 237, 239, 240, 244, 245, 248, 97]
theorem byte_get (m : Nat) (h : m < 20) : (byteTab.map fun b => Value.int .u8 (b.toNat : Int))[m]? = some (.int .u8 ((byteTab.getD m 0).toNat : Int)) := by
  rw [List.getElem?_map, List.getElem?_eq_getElem (by exact h)]
  simp [List.getD, List.getElem?_eq_getElem (show m < byteTab.length from h)]
  rfl


set_option maxRecDepth 100000 in
set_option maxHeartbeats 4000000 in
theorem TextBytes_any (l : List UInt8) (A : Option Addr) (n c : Nat) (w : World) (h : Sl RByte 1 w (Lt w.heap.size) l [.slice A n c]) :
    Calls Try.prog 4 #[.slice A n c] w fun e w' => e = .returned (.bool true) ∧ Below w.heap.size w w' := by
  obtain ⟨hn, hnc, hcm⟩ := h.len_
  obtain rfl := hn
  have K := hide h
  clear h
  unfold maxLen at hcm
  by_cases hs : l.length ≤ 12
  · go_enter Try.func4, Try.ntmps4
    go_wp2_with (at_make; refine wpList_make_bytes rfl (.tmp 10) (.tmp 10) 22 5 rfl Try.underlying22 info_u8 l.length rfl rfl (by omega) ?_; intro g w1 hg1 hg2 hb1 hby)
    go_loopw [14] (fun i wr => ∃ (k : Nat) (cur : List UInt8), k ≤ l.length ∧ cur.length = l.length ∧ i = .int .i64 k ∧ BytesAt wr 5 g cur ∧ g < wr.heap.size ∧ Below w.heap.size w wr) (fun i _ => l.length - (intOf i).toNat)
    case atStart => exact ⟨0, _, Nat.zero_le _, by simp, rfl, hby, hg2, hb1⟩
    case round =>
      clear hby hg2 hb1
      obtain ⟨k, cur, hk, hcl, rfl, hby, hg2, hb⟩ := hrel
      have HCL := hide hcl
      clear hcl
      by_cases hlt : k < l.length
      · obtain ⟨b, off, xs, hA, hbS, hx, hcell⟩ := K.out.at_ hlt
        obtain ⟨d, hd⟩ : ∃ d, d = l[k] := ⟨_, rfl⟩
        rw [← hd] at hx
        have hc0 := hcell 0 (.int .u8 (d.toNat : Int)) (by rw [show xs = byteC d from hx]; rfl)
        rw [Nat.mul_one, Nat.add_zero] at hc0
        have hbS' : b < w.heap.size := hbS
        have hsz := hb.size
        have hca : ∀ ob, (wr.alloc ob).cell? ⟨b, off + k, none⟩ = some (.int .u8 (d.toNat : Int)) := fun ob => by
          rw [World.cell?_alloc_lt _ _ _ (by show b < _; omega), hb.cell hbS', hc0]
        have hdb := byte_lt d
        obtain ⟨m, hm⟩ : ∃ m : Nat, m = d.toNat % 20 := ⟨_, rfl⟩
        have hm32 : (m : Int) < 20 := by omega
        have hm0 : (0 : Int) ≤ (m : Int) := by omega
        have hmi : (d.toNat : Int) % 20 = (m : Int) := by omega
        have hpg := byte_get m (by omega)
        obtain ⟨y, hy⟩ : ∃ y : UInt8, y = byteTab.getD m 0 := ⟨_, rfl⟩
        rw [← hy] at hpg
        have hpl2 : (([.int .u8 32, .int .u8 126, .int .u8 127, .int .u8 128, .int .u8 143, .int .u8 144, .int .u8 159, .int .u8 160, .int .u8 191, .int .u8 193, .int .u8 194, .int .u8 223, .int .u8 224, .int .u8 237, .int .u8 239, .int .u8 240, .int .u8 244, .int .u8 245, .int .u8 248, .int .u8 97] : List Value))[m]? = some (.int .u8 (y.toNat : Int)) := hpg
        have hpl3 : (([.int .u8 32, .int .u8 126, .int .u8 127, .int .u8 128, .int .u8 143, .int .u8 144, .int .u8 159, .int .u8 160, .int .u8 191, .int .u8 193, .int .u8 194, .int .u8 223, .int .u8 224, .int .u8 237, .int .u8 239, .int .u8 240, .int .u8 244, .int .u8 245, .int .u8 248, .int .u8 97] : List Value)).toArray[m]? = some (.int .u8 (y.toNat : Int)) := by rw [List.getElem?_toArray]; exact hpg
        have hkc : k < cur.length := by rw [HCL.out]; exact hlt
        have hcur : ∀ ob, ∃ u, (wr.alloc ob).cell? ⟨g, k, none⟩ = some u := fun ob => ⟨_, by rw [World.cell?_alloc_lt _ _ _ (by exact hg2)]; exact hby.cell hkc⟩
        have hfr : ∀ ob, (wr.alloc ob).frozen? ⟨g, k, none⟩ = false := fun ob => by rw [World.frozen?_alloc_old _ _ _ (by show g ≠ _; omega)]; exact hby.free hkc
        have hcc : ∀ ob, (wr.alloc ob).cell? ⟨g, k, none⟩ = some (.int .u8 (cur[k].toNat : Int)) := fun ob => by rw [World.cell?_alloc_lt _ _ _ (by exact hg2)]; exact hby.cell hkc
        have HSET := hide (fun ob => (hby.set_ hkc y).keep (Below.heap_alloc _ ob g (by rw [World.size_setCell]; exact hg2)))
        have HBL := hide (fun ob => below_alloc (Below.setCell hb (p := ⟨g, k, none⟩) hg1 (.int .u8 (y.toNat : Int))) (by rw [World.size_setCell]; exact hsz) ob)
        subst hA
        clear hpg hcell hx hd hy hm hc0 hby hcur hb
        go_wp2_with fail
        go_roundw
        case rel => exact ⟨k + 1, cur.set k y, by omega, by rw [List.length_set]; exact HCL.out, by go_num, HSET.out _, by simp; omega, HBL.out _⟩
        case measure => simp [intOf]; omega
      · have hsl := hby.sl (c := l.length) (by rw [HCL.out]; omega) (by unfold maxLen; omega)
        rw [HCL.out] at hsl
        have HK := hide (show ∀ w' : World, w'.heap[g]? = wr.heap[g]? → (convert 22 9 (.slice (some ⟨g, 0, none⟩) l.length l.length)).run Try.prog w' = .ok (.string ⟨cur.toArray⟩) w' from fun w' hw' =>
          run_bts_str (P := Try.prog) w' 22 9 5 Try.underlying22 Try.underlying5 Try.underlying9 _ _ _ ((Sl.ok RByte.ok).mono hsl (fun k hk => by rw [show k = g from hk]; exact hw') (fun k hk => hk)))
        have hcs : (⟨cur.toArray⟩ : ByteArray).size ≤ 1000000 := by show cur.length ≤ _; rw [HCL.out]; omega
        obtain ⟨x, hx⟩ : ∃ x : ByteArray, x = ⟨cur.toArray⟩ := ⟨_, rfl⟩
        rw [← hx] at HK hcs
        clear hsl hx hby
        have HB := hide hb
        have hsz := hb.size
        obtain ⟨q, hq⟩ : ∃ q, rvalidT 12 x.data.toList = q := ⟨_, rfl⟩
        have HQ := hide hq
        clear hq hb
        go_wp2_with fail
        go_region_held3 (fun w' => (convert 22 9 (.slice (some ⟨g, 0, none⟩) l.length l.length)).run Try.prog w' = .ok (.string x) w')
          (first | exact HK.out _ rfl | exact HK.out _ (hb9.block g hg2) | exact HK.out _ ((hb10.block g (by have := hb9.size; simp at this; omega)).trans (hb9.block g hg2)))
          (first | ((go_at_call 8; refine (awake_any _).mono ?_; rintro e w9 ⟨rfl, hb9⟩)) | ((go_at_call 10; refine (Valid_r 12 x hcs _).mono ?_; rintro e w10 ⟨rfl, hb10⟩; rw [HQ.out])) | ((go_at_call 11; refine (rValid_any 12 x hcs _).mono ?_; rintro e w11 ⟨rfl, rfl⟩; rw [HQ.out])))
        all_goals
          go_wp2_with fail
          go_ret
          have h9 := HB.out.drew.trans (hb9.mono (by simp; omega))
          exact ⟨rfl, h9.trans (hb10.mono h9.size)⟩
  · go_enter Try.func4, Try.ntmps4
    go_wp2_with fail
    refine (awake_any _).mono ?_
    rintro e w3 ⟨rfl, hb3⟩
    go_wp2_with fail
    go_ret
    exact ⟨rfl, hb3⟩
end Go.Proofs.Ytbhcjohkbaaeiaa
