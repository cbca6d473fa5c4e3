/- The reference's Dec: decimal digits. -/
import Derived.Test.YtbafpgdmnkkclaaDoorOid1
namespace Go.Proofs.YtbafpgdmnkkclaaDoor
open Go.RowKit

def decL (n : Nat) : List UInt8 := if _h : n < 10 then [UInt8.ofNat (48 + n)] else decL (n / 10) ++ [UInt8.ofNat (48 + n % 10)]
termination_by n
decreasing_by omega
theorem decL_small {n : Nat} (h : n < 10) : decL n = [UInt8.ofNat (48 + n)] := by rw [decL, dif_pos h]
theorem decL_big {n : Nat} (h : ¬ n < 10) : decL n = decL (n / 10) ++ [UInt8.ofNat (48 + n % 10)] := by rw [decL, dif_neg h]
theorem decL_len : ∀ (k n : Nat), n < 10 ^ (k + 1) → (decL n).length ≤ k + 1
  | 0, n, h => by rw [decL_small (by omega)]; simp
  | k + 1, n, h => by
    by_cases h10 : n < 10
    · rw [decL_small h10]; simp
    · have := decL_len k (n / 10) (by rw [Nat.pow_succ] at h; omega)
      rw [decL_big h10, List.length_append]; simp; omega
theorem sl_one (w : World) (c : UInt8) : Sl RByte 1 (w.alloc (.cells #[.int .u8 (c.toNat : Int)] 5)) (fun k => k = w.heap.size) [c] [.slice (some ⟨w.heap.size, 0, none⟩) 1 1] := by
  refine ⟨_, 1, rfl, by simp, by simp [maxLen], fun _ => ⟨w.heap.size, 0, rfl, rfl, fun i x hx => ⟨byteC x, rfl, fun j u hu => ?_⟩⟩⟩
  rw [World.cell?_alloc_new]
  match i, hx with
  | 0, hx =>
    simp at hx; subst hx
    match j, hu with
    | 0, hu => simp [byteC] at hu; subst hu; rfl

theorem conv_one (W : World) (g : Nat) (c : UInt8) (h : W.cell? ⟨g, 0, none⟩ = some (.int .u8 (c.toNat : Int))) :
    (convert 56 9 (.slice (some ⟨g, 0, none⟩) 1 1)).run Tryd.prog W = .ok (.string ⟨#[c]⟩) W :=
  run_convert_bytes_back (P := Tryd.prog) W 56 9 5 ⟨g, 0, none⟩ 1 [c] Tryd.underlying56 Tryd.underlying5 Tryd.underlying9 fun j hj => by
    have : j = 0 := by simpa using hj
    subst this
    rw [Addr.add_lit]
    simpa using h

theorem cell_new9 {w w9 : World} {v : Value} {t : TypeId} (h : Below (w.alloc (.cells #[v] t)).heap.size (w.alloc (.cells #[v] t)) w9) : w9.cell? ⟨w.heap.size, 0, none⟩ = some v :=
  (h.cell (by simp)).trans (by rw [World.cell?_alloc_new]; rfl)
theorem cell_new9d {w w9 : World} {v : Value} {t : TypeId} (h : Below (w.alloc (.cells #[v] t)).drew.heap.size (w.alloc (.cells #[v] t)).drew w9) : w9.cell? ⟨w.heap.size, 0, none⟩ = some v :=
  (h.cell (by show w.heap.size < (w.alloc (.cells #[v] t)).heap.size; simp)).trans (by show (w.alloc (.cells #[v] t)).cell? _ = _; rw [World.cell?_alloc_new]; rfl)

set_option maxRecDepth 100000 in
set_option maxHeartbeats 400000 in
theorem Dec_any : ∀ (n : Nat) (N : Int), N = (n : Int) → n ≤ 4294967295 → ∀ (w : World),
    Calls Tryd.prog 59 #[.int .i64 N] w fun e w' => e = .returned (.string ⟨(decL n).toArray⟩) ∧ Below w.heap.size w w' := by
  intro n
  induction n using Nat.strongRecOn with
  | ind n ih =>
    intro N hN hn w
    subst hN
    by_cases h : n < 10
    · have HR := hide (decL_small h)
      rw [HR.out]
      obtain ⟨c, hc⟩ : ∃ c, UInt8.ofNat (48 + n) = c := ⟨_, rfl⟩
      rw [hc]
      have hcv : (48 : Int) + (n : Int) = (c.toNat : Int) := by rw [← hc, ofNat_byte _ (by omega)]; omega
      have hcl := byte_lt c
      clear hc
      have hconv := run_bts_str (P := Tryd.prog) _ 56 9 5 Tryd.underlying56 Tryd.underlying5 Tryd.underlying9 _ _ _ (sl_one w c)
      go_enter Tryd.func59, Tryd.ntmps59
      go_wp2_with fail
      go_ret
      exact ⟨rfl, (Below.refl _ _).alloc (Nat.le_refl _) _⟩
    · have HR := hide (decL_big h)
      have IH0 := fun N hN => ih (n / 10) (by omega) N hN (by omega)
      have hlen := decL_len 9 (n / 10) (by omega)
      obtain ⟨S, hS⟩ : ∃ S : ByteArray, S = ⟨(decL (n / 10)).toArray⟩ := ⟨_, rfl⟩
      have hss : S.size ≤ 10 := by rw [hS]; simpa [ByteArray.size] using hlen
      have hbs : ¬ 9223372036854775807 < S.size + 1 := by omega
      rw [← hS] at IH0
      have IH := hide IH0
      have HS := hide hS
      clear IH0 hS hlen
      rw [HR.out]
      obtain ⟨c, hc⟩ : ∃ c, UInt8.ofNat (48 + n % 10) = c := ⟨_, rfl⟩
      rw [hc]
      have hcv : (48 : Int) + (n : Int) % 10 = (c.toNat : Int) := by rw [← hc, ofNat_byte _ (by omega)]; omega
      have hcl := byte_lt c
      clear hc ih
      have hconv := fun W g => conv_one W g c
      have htm : ((n : Int).tmod 10) = (n : Int) % 10 := by rw [Int.tmod_eq_emod_of_nonneg (by omega)]
      have hw1 : IntKind.i64.wrap ((n : Int) / 10) = (n : Int) / 10 := IntWalk.i64_in _ (by omega)
      have hw3 : IntKind.i64.wrap (48 + (n : Int).tmod 10) = (c.toNat : Int) := by rw [htm, ← hcv]; exact IntWalk.i64_in _ (by omega)
      have hw4 : IntKind.u8.wrap (c.toNat : Int) = (c.toNat : Int) := by rw [IntKind.wrap_u8']; omega
      clear htm
      go_enter Tryd.func59, Tryd.ntmps59
      go_wp2_with fail
      go_region_with ((go_at_call 59; refine (IH.out _ (by omega) _).mono ?_; rintro e w9 ⟨rfl, hb9⟩; first | have hcc9 : w9.cell? ⟨w.heap.size, 0, none⟩ = some (.int .u8 (c.toNat : Int)) := cell_new9 hb9 | have hcc9 : w9.cell? ⟨w.heap.size, 0, none⟩ = some (.int .u8 (c.toNat : Int)) := cell_new9d hb9 | have hcc9 : w9.cell? ⟨w.heap.size, 0, none⟩ = some (.int .u8 (c.toNat : Int)) := cell_new9 (w := w.drew) hb9 | skip))
      all_goals
        go_wp2_with fail
        go_ret
        refine ⟨ret_ba (by rw [ba_append, HS.out]), ?_⟩
        have hs9 := hb9.size
        first
          | exact (((Below.refl w.heap.size w).drew).trans hb9).alloc hs9 _
          | exact (((Below.refl w.heap.size w).drew).alloc (Nat.le_refl _) _).trans (hb9.mono (by simp))
          | exact (((Below.refl w.heap.size w).alloc (Nat.le_refl _) _).drew).trans (hb9.mono (by simp))
          | trace_state
end Go.Proofs.YtbafpgdmnkkclaaDoor
