/- The texts that the laws try: pieces; the examples of the chapter: awake. -/
import Derived.Test.YtbhcjohkbaaeiaaTxtL
namespace Go.Proofs.Ytbhcjohkbaaeiaa
open Go.RowKit

def pieceTab : List (List UInt8) := [[97], [65], [122], [90], [32], [32, 32], [92], [50, 99], [92, 50, 99], [92, 50, 67], [61], [44], [64], [95], [39], [195, 169], [197, 129], [195], [128], [0], [31], [127], [230, 151, 165], [237, 160, 128], [244, 143, 191, 191], [244, 144, 128, 128], [192, 128], [224, 128, 128], [91], [96], [48], [38]]
def pieceAt (m : Nat) : List UInt8 := pieceTab.getD m []
def piecesG (l : List UInt8) : List UInt8 := (l.take 40).flatMap fun c => pieceAt (c.toNat % 32)
theorem pieceAt_len (m : Nat) (h : m < 32) : (pieceAt m).length ≤ 4 := by
  have : ∀ n : Fin 32, (pieceAt n.1).length ≤ 4 := by decide
  exact this ⟨m, h⟩
theorem piecesG_len (l : List UInt8) : (piecesG l).length ≤ 160 := by
  unfold piecesG
  have h : ∀ r : List UInt8, (r.flatMap fun c => pieceAt (c.toNat % 32)).length ≤ 4 * r.length := by
    intro r
    induction r with
    | nil => simp
    | cons c r ih =>
      rw [List.flatMap_cons, List.length_append, List.length_cons]
      have := pieceAt_len (c.toNat % 32) (by omega)
      omega
  have := h (l.take 40)
  rw [List.length_take] at this
  omega
theorem piece_get (m : Nat) (h : m < 32) : (pieceTab.map fun l => Value.string ⟨l.toArray⟩)[m]? = some (.string ⟨(pieceAt m).toArray⟩) := by
  rw [List.getElem?_map, List.getElem?_eq_getElem (by exact h)]
  simp [pieceAt, List.getD, List.getElem?_eq_getElem (show m < pieceTab.length from h)]
  rfl


set_option maxRecDepth 100000 in
set_option maxHeartbeats 4000000 in
theorem pieces_any (l : List UInt8) (A : Option Addr) (n c : Nat) (w : World) (h : Sl RByte 1 w (Lt w.heap.size) l [.slice A n c]) :
    Calls Try.prog 9 #[.slice A n c] w fun e w' => e = .returned (.string ⟨(piecesG l).toArray⟩) ∧ Below w.heap.size w w' := by
  obtain ⟨hn, hnc, hcm⟩ := h.len_
  obtain rfl := hn
  unfold maxLen at hcm
  obtain ⟨r, hr⟩ : ∃ r, r = piecesG l := ⟨_, rfl⟩
  rw [← hr]
  have HR := hide (show r = ((l.drop 0).take (40 - 0)).flatMap fun c => pieceAt (c.toNat % 32) from hr)
  clear hr
  have hb0 : Below w.heap.size w w := Below.refl _ _
  obtain ⟨base, hbase, HBASE⟩ : ∃ base, base ≤ w.heap.size ∧ Hid (base = w.heap.size) := ⟨_, Nat.le_refl _, rfl⟩
  rw [← HBASE.out] at h hb0
  go_enter Try.func9, Try.ntmps9
  go_wp2_with fail
  go_loopw [3, 4] (fun v i wr => ∃ (k : Nat) (o : ByteArray), k ≤ l.length ∧ k ≤ 40 ∧ o.size ≤ 4 * k ∧ v = .string o ∧ i = .int .i64 k ∧ Below base w wr ∧ Hid (r = o.data.toList ++ ((l.drop k).take (40 - k)).flatMap fun c => pieceAt (c.toNat % 32))) (fun _ i _ => 40 - (intOf i).toNat)
  case atStart => exact ⟨0, _, Nat.zero_le _, Nat.zero_le _, by decide, rfl, rfl, hb0, HR⟩
  case round =>
    clear hb0
    obtain ⟨k, o, hk, hk40, hol, rfl, rfl, hb, H⟩ := hrel
    have hgs : base ≤ wr.heap.size := by have := hb.size; omega
    by_cases hlt : k < l.length
    · by_cases hlt2 : k < 40
      · obtain ⟨b, off, xs, hA, hbS, hx, hcell⟩ := h.at_ hlt
        obtain ⟨d, hd⟩ : ∃ d, d = l[k] := ⟨_, rfl⟩
        rw [← hd] at hx
        have hc0 := hcell 0 (.int .u8 (d.toNat : Int)) (by rw [show xs = byteC d from hx]; rfl)
        rw [Nat.mul_one, Nat.add_zero] at hc0
        have hbS' : b < base := hbS
        have hca : ∀ ob, (wr.alloc ob).cell? ⟨b, off + k, none⟩ = some (.int .u8 (d.toNat : Int)) := fun ob => by
          rw [World.cell?_alloc_lt _ _ _ (by show b < _; omega), hb.cell hbS', hc0]
        have HD := hide (show (l.drop k).take (40 - k) = d :: (l.drop (k + 1)).take (40 - (k + 1)) by
          rw [List.drop_eq_getElem_cons hlt, ← hd, show 40 - k = (40 - (k + 1)) + 1 from by omega, List.take_succ_cons])
        have hdb := byte_lt d
        obtain ⟨m, hm⟩ : ∃ m : Nat, m = d.toNat % 32 := ⟨_, rfl⟩
        have hm32 : (m : Int) < 32 := by omega
        have hm0 : (0 : Int) ≤ (m : Int) := by omega
        have hmi : (d.toNat : Int) % 32 = (m : Int) := by omega
        have hpg := piece_get m (by omega)
        have hpl := pieceAt_len m (by omega)
        obtain ⟨y, hy⟩ : ∃ y : ByteArray, y = ⟨(pieceAt m).toArray⟩ := ⟨_, rfl⟩
        have hys : y.size ≤ 4 := by rw [hy]; exact hpl
        rw [← hy] at hpg
        have HY := hide (show y.data.toList = pieceAt (d.toNat % 32) by rw [hy, hm])
        have hpl2 : (([.string ⟨#[97]⟩, .string ⟨#[65]⟩, .string ⟨#[122]⟩, .string ⟨#[90]⟩, .string ⟨#[32]⟩, .string ⟨#[32, 32]⟩, .string ⟨#[92]⟩, .string ⟨#[50, 99]⟩, .string ⟨#[92, 50, 99]⟩, .string ⟨#[92, 50, 67]⟩, .string ⟨#[61]⟩, .string ⟨#[44]⟩, .string ⟨#[64]⟩, .string ⟨#[95]⟩, .string ⟨#[39]⟩, .string ⟨#[195, 169]⟩, .string ⟨#[197, 129]⟩, .string ⟨#[195]⟩, .string ⟨#[128]⟩, .string ⟨#[0]⟩, .string ⟨#[31]⟩, .string ⟨#[127]⟩, .string ⟨#[230, 151, 165]⟩, .string ⟨#[237, 160, 128]⟩, .string ⟨#[244, 143, 191, 191]⟩, .string ⟨#[244, 144, 128, 128]⟩, .string ⟨#[192, 128]⟩, .string ⟨#[224, 128, 128]⟩, .string ⟨#[91]⟩, .string ⟨#[96]⟩, .string ⟨#[48]⟩, .string ⟨#[38]⟩] : List Value))[m]? = some (.string y) := hpg
        have hpl3 : (([.string ⟨#[97]⟩, .string ⟨#[65]⟩, .string ⟨#[122]⟩, .string ⟨#[90]⟩, .string ⟨#[32]⟩, .string ⟨#[32, 32]⟩, .string ⟨#[92]⟩, .string ⟨#[50, 99]⟩, .string ⟨#[92, 50, 99]⟩, .string ⟨#[92, 50, 67]⟩, .string ⟨#[61]⟩, .string ⟨#[44]⟩, .string ⟨#[64]⟩, .string ⟨#[95]⟩, .string ⟨#[39]⟩, .string ⟨#[195, 169]⟩, .string ⟨#[197, 129]⟩, .string ⟨#[195]⟩, .string ⟨#[128]⟩, .string ⟨#[0]⟩, .string ⟨#[31]⟩, .string ⟨#[127]⟩, .string ⟨#[230, 151, 165]⟩, .string ⟨#[237, 160, 128]⟩, .string ⟨#[244, 143, 191, 191]⟩, .string ⟨#[244, 144, 128, 128]⟩, .string ⟨#[192, 128]⟩, .string ⟨#[224, 128, 128]⟩, .string ⟨#[91]⟩, .string ⟨#[96]⟩, .string ⟨#[48]⟩, .string ⟨#[38]⟩] : List Value)).toArray[m]? = some (.string y) := by rw [List.getElem?_toArray]; exact hpg
        subst hA
        clear hpg hcell hx hd hy hm hc0 hpl
        go_wp2_with fail
        go_roundw
        case rel => exact ⟨k + 1, o ++ y, by omega, by omega, by rw [ba_size]; omega, rfl, by go_num, hb.alloc hgs _, hide (by rw [H.out, HD.out, List.flatMap_cons, ba_append, HY.out, List.append_assoc])⟩
        case measure => simp [intOf]; omega
      · have HE := hide (show (l.drop k).take (40 - k) = [] by rw [show 40 - k = 0 from by omega]; simp)
        go_wp2_with fail
        go_ret
        exact ⟨ret_ba (by rw [H.out, HE.out]; simp), HBASE.out ▸ hb⟩
    · have HE := hide (show (l.drop k).take (40 - k) = [] by rw [List.drop_eq_nil_of_le (by omega)]; simp)
      go_wp2_with fail
      go_ret
      exact ⟨ret_ba (by rw [H.out, HE.out]; simp), HBASE.out ▸ hb⟩

theorem awake_fold : foldG [] false [32, 32, 69, 120, 97, 109, 112, 108, 101, 32, 32, 32, 67, 111, 114, 112, 32] = [101, 120, 97, 109, 112, 108, 101, 32, 99, 111, 114, 112] := by decide
theorem awake_esc : [97, 44, 98].flatMap escB = [97, 92, 50, 99, 98] := by decide
theorem awake_utf : validT 12 [103, 114, 195, 182, 195, 159, 101] = true := by
  rw [valid_eq]
  decide
theorem awake_ia5 : validT 22 [103, 114, 195, 182, 195, 159, 101] = false := by decide

set_option maxHeartbeats 1000000 in
theorem awake_any (w : World) : Calls Try.prog 8 #[] w fun e w' => e = .returned (.bool true) ∧ Below w.heap.size w w' := by
  go_enter Try.func8, Try.ntmps8
  go_wp2_with fail
  refine (Fold_any _ (by decide) _).mono ?_
  rintro e w1 ⟨rfl, hb1⟩
  simp only [awake_fold]
  go_wp2_with fail
  refine (Escape_any _ (by decide) _).mono ?_
  rintro e w2 ⟨rfl, hb2⟩
  simp only [awake_esc]
  go_wp2_with fail
  refine (Valid_any _ _ (by decide) _).mono ?_
  rintro e w3 ⟨rfl, hb3⟩
  simp only [awake_utf]
  go_wp2_with fail
  refine (Valid_any _ _ (by decide) _).mono ?_
  rintro e w4 ⟨rfl, hb4⟩
  simp only [awake_ia5]
  go_wp2_with fail
  go_ret
  have h2 := hb1.trans (hb2.mono hb1.size)
  have h3 := h2.trans (hb3.mono h2.size)
  exact ⟨rfl, h3.trans (hb4.mono h3.size)⟩
end Go.Proofs.Ytbhcjohkbaaeiaa
