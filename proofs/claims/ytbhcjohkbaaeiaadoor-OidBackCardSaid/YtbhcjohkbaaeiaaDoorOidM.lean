/- The texts that the laws of package oid try: pieces. -/
import Derived.Test.YtbhcjohkbaaeiaaDoorOidI
namespace Go.Proofs.YtbhcjohkbaaeiaaDoor
open Go.RowKit

def opcTab : List (List UInt8) := [[48], [49], [50], [51, 57], [52, 48], [49, 50, 55], [49, 50, 56], [50, 49, 52, 55, 52, 56, 51, 54, 52, 55], [50, 49, 52, 55, 52, 56, 51, 54, 52, 56], [57, 57, 57, 57, 57, 57, 57, 57, 57, 57, 57], [48, 48, 55], [46], [46], [46], [46], [46, 53, 46], [45], [97], [32]]
def opcAt (m : Nat) : List UInt8 := opcTab.getD m []
def opcG (l : List UInt8) : List UInt8 := (l.take 30).flatMap fun c => opcAt (c.toNat % 19)
theorem opcAt_len (m : Nat) (h : m < 19) : (opcAt m).length ≤ 11 := by
  have : ∀ n : Fin 19, (opcAt n.1).length ≤ 11 := by decide
  exact this ⟨m, h⟩
theorem opcG_len (l : List UInt8) : (opcG l).length ≤ 11 * 30 := by
  unfold opcG
  have h : ∀ r : List UInt8, (r.flatMap fun c => opcAt (c.toNat % 19)).length ≤ 11 * r.length := by
    intro r
    induction r with
    | nil => simp
    | cons c r ih =>
      rw [List.flatMap_cons, List.length_append, List.length_cons]
      have := opcAt_len (c.toNat % 19) (by omega)
      omega
  have := h (l.take 30)
  rw [List.length_take] at this
  omega
theorem opc_get (m : Nat) (h : m < 19) : (opcTab.map fun l => Value.string ⟨l.toArray⟩)[m]? = some (.string ⟨(opcAt m).toArray⟩) := by
  rw [List.getElem?_map, List.getElem?_eq_getElem (by exact h)]
  simp [opcAt, List.getD, List.getElem?_eq_getElem (show m < opcTab.length from h)]
  rfl


set_option maxRecDepth 100000 in
set_option maxHeartbeats 4000000 in
theorem opc_any (l : List UInt8) (A : Option Addr) (n c : Nat) (w : World) (h : Sl RByte 1 w (Lt w.heap.size) l [.slice A n c]) :
    Calls Tryd.prog 9 #[.slice A n c] w fun e w' => e = .returned (.string ⟨(opcG l).toArray⟩) ∧ Below w.heap.size w w' := by
  obtain ⟨hn, hnc, hcm⟩ := h.len_
  obtain rfl := hn
  unfold maxLen at hcm
  obtain ⟨r, hr⟩ : ∃ r, r = opcG l := ⟨_, rfl⟩
  rw [← hr]
  have HR := hide (show r = ((l.drop 0).take (30 - 0)).flatMap fun c => opcAt (c.toNat % 19) from hr)
  clear hr
  have hb0 : Below w.heap.size w w := Below.refl _ _
  obtain ⟨base, hbase, HBASE⟩ : ∃ base, base ≤ w.heap.size ∧ Hid (base = w.heap.size) := ⟨_, Nat.le_refl _, rfl⟩
  rw [← HBASE.out] at h hb0
  go_enter Tryd.func9, Tryd.ntmps9
  go_wp2_with fail
  go_loopw [3, 4] (fun v i wr => ∃ (k : Nat) (o : ByteArray), k ≤ l.length ∧ k ≤ 30 ∧ o.size ≤ 11 * k ∧ v = .string o ∧ i = .int .i64 k ∧ Below base w wr ∧ Hid (r = o.data.toList ++ ((l.drop k).take (30 - k)).flatMap fun c => opcAt (c.toNat % 19))) (fun _ i _ => 30 - (intOf i).toNat)
  case atStart => exact ⟨0, _, Nat.zero_le _, Nat.zero_le _, by decide, rfl, rfl, hb0, HR⟩
  case round =>
    clear hb0
    obtain ⟨k, o, hk, hk40, hol, rfl, rfl, hb, H⟩ := hrel
    have hgs : base ≤ wr.heap.size := by have := hb.size; omega
    by_cases hlt : k < l.length
    · by_cases hlt2 : k < 30
      · obtain ⟨b, off, xs, hA, hbS, hx, hcell⟩ := h.at_ hlt
        obtain ⟨d, hd⟩ : ∃ d, d = l[k] := ⟨_, rfl⟩
        rw [← hd] at hx
        have hc0 := hcell 0 (.int .u8 (d.toNat : Int)) (by rw [show xs = byteC d from hx]; rfl)
        rw [Nat.mul_one, Nat.add_zero] at hc0
        have hbS' : b < base := hbS
        have hca : ∀ ob, (wr.alloc ob).cell? ⟨b, off + k, none⟩ = some (.int .u8 (d.toNat : Int)) := fun ob => by
          rw [World.cell?_alloc_lt _ _ _ (by show b < _; omega), hb.cell hbS', hc0]
        have HD := hide (show (l.drop k).take (30 - k) = d :: (l.drop (k + 1)).take (30 - (k + 1)) by
          rw [List.drop_eq_getElem_cons hlt, ← hd, show 30 - k = (30 - (k + 1)) + 1 from by omega, List.take_succ_cons])
        have hdb := byte_lt d
        obtain ⟨m, hm⟩ : ∃ m : Nat, m = d.toNat % 19 := ⟨_, rfl⟩
        have hm32 : (m : Int) < 19 := by omega
        have hm0 : (0 : Int) ≤ (m : Int) := by omega
        have hmi : (d.toNat : Int) % 19 = (m : Int) := by omega
        have hpg := opc_get m (by omega)
        have hpl := opcAt_len m (by omega)
        obtain ⟨y, hy⟩ : ∃ y : ByteArray, y = ⟨(opcAt m).toArray⟩ := ⟨_, rfl⟩
        have hys : y.size ≤ 11 := by rw [hy]; exact hpl
        rw [← hy] at hpg
        have HY := hide (show y.data.toList = opcAt (d.toNat % 19) by rw [hy, hm])
        have hpl2 : (([.string ⟨#[48]⟩, .string ⟨#[49]⟩, .string ⟨#[50]⟩, .string ⟨#[51, 57]⟩, .string ⟨#[52, 48]⟩, .string ⟨#[49, 50, 55]⟩, .string ⟨#[49, 50, 56]⟩, .string ⟨#[50, 49, 52, 55, 52, 56, 51, 54, 52, 55]⟩, .string ⟨#[50, 49, 52, 55, 52, 56, 51, 54, 52, 56]⟩, .string ⟨#[57, 57, 57, 57, 57, 57, 57, 57, 57, 57, 57]⟩, .string ⟨#[48, 48, 55]⟩, .string ⟨#[46]⟩, .string ⟨#[46]⟩, .string ⟨#[46]⟩, .string ⟨#[46]⟩, .string ⟨#[46, 53, 46]⟩, .string ⟨#[45]⟩, .string ⟨#[97]⟩, .string ⟨#[32]⟩] : List Value))[m]? = some (.string y) := hpg
        have hpl3 : (([.string ⟨#[48]⟩, .string ⟨#[49]⟩, .string ⟨#[50]⟩, .string ⟨#[51, 57]⟩, .string ⟨#[52, 48]⟩, .string ⟨#[49, 50, 55]⟩, .string ⟨#[49, 50, 56]⟩, .string ⟨#[50, 49, 52, 55, 52, 56, 51, 54, 52, 55]⟩, .string ⟨#[50, 49, 52, 55, 52, 56, 51, 54, 52, 56]⟩, .string ⟨#[57, 57, 57, 57, 57, 57, 57, 57, 57, 57, 57]⟩, .string ⟨#[48, 48, 55]⟩, .string ⟨#[46]⟩, .string ⟨#[46]⟩, .string ⟨#[46]⟩, .string ⟨#[46]⟩, .string ⟨#[46, 53, 46]⟩, .string ⟨#[45]⟩, .string ⟨#[97]⟩, .string ⟨#[32]⟩] : List Value)).toArray[m]? = some (.string y) := by rw [List.getElem?_toArray]; exact hpg
        subst hA
        clear hpg hcell hx hd hy hm hc0 hpl
        go_wp2_with fail
        go_roundw
        case rel => exact ⟨k + 1, o ++ y, by omega, by omega, by rw [ba_size]; omega, rfl, by go_num, hb.alloc hgs _, hide (by rw [H.out, HD.out, List.flatMap_cons, ba_append, HY.out, List.append_assoc])⟩
        case measure => simp [intOf]; omega
      · have HE := hide (show (l.drop k).take (30 - k) = [] by rw [show 30 - k = 0 from by omega]; simp)
        go_wp2_with fail
        go_ret
        exact ⟨ret_ba (by rw [H.out, HE.out]; simp), HBASE.out ▸ hb⟩
    · have HE := hide (show (l.drop k).take (30 - k) = [] by rw [List.drop_eq_nil_of_le (by omega)]; simp)
      go_wp2_with fail
      go_ret
      exact ⟨ret_ba (by rw [H.out, HE.out]; simp), HBASE.out ▸ hb⟩
end Go.Proofs.YtbhcjohkbaaeiaaDoor
