/- The reference's next layer: Wrap, Fit, OID. -/
import Derived.Test.YtbafpgdmnkkclaaDoorTlvH
import Derived.Test.YtbafpgdmnkkclaaDoorOidK
import Derived.Test.YtbafpgdmnkkclaaDoorExtP
namespace Go.Proofs.YtbafpgdmnkkclaaDoor
open Go.RowKit

/-- a block that was made with a few elements in it, read -/
theorem sl_pu {α : Type} {f : α → List Value} {size : Nat} (hf : ∀ x, (f x).length = size) (w : World) (C : Array Value) (t : TypeId) (l : List α) (hC : C.toList = l.flatMap f) (hl : l.length ≤ maxLen) :
    Sl (Pu f) size (w.alloc (.cells C t)) (Lt (w.alloc (.cells C t)).heap.size) l [.slice (some ⟨w.heap.size, 0, none⟩) l.length l.length] := by
  refine ⟨_, _, rfl, Nat.le_refl _, hl, fun _ => ⟨w.heap.size, 0, rfl, by show _ < _; simp, fun i x hx => ?_⟩⟩
  obtain ⟨cs, h1, h2⟩ := news_pu hf w (Lt (w.alloc (.cells C t)).heap.size) C t l hC i x hx
  refine ⟨cs, h1, fun j u hu => ?_⟩
  have := h2 j u hu
  rw [Addr.add_lit] at this
  exact this
theorem wrapG_size (t : Nat) (xs : List (List UInt8)) : (wrapG t xs).1.length ≤ 131077 := by
  unfold wrapG wrapF
  split
  · simp
  · split
    · simp
    · rw [wrapW_len]; have := lenB_le xs.flatten.length; omega
def fitR : Option (List UInt8) → Value
  | none => .tuple #[.string ⟨#[]⟩, .int .i64 2]
  | some b => .tuple #[.string ⟨b.toArray⟩, .int .i64 0]

set_option maxHeartbeats 1000000 in
theorem rWrap7_any (t : Nat) (ht : t < 256) (xs : List (List UInt8)) (A : Option Addr) (c : Nat) (hx : xs.flatten.length ≤ 1000000000000) (w : World) (h : Sl RStr 1 w (Lt w.heap.size) xs [.slice A xs.length c]) :
    Calls Tryd.prog 26 #[.int .i64 (t : Int), .slice A xs.length c] w fun e w' => e = .returned (.string ⟨(wrapG t xs).1.toArray⟩) ∧ Below w.heap.size w w' := by
  have HS := hide h
  obtain ⟨r, hr⟩ : ∃ r, wrapG t xs = r := ⟨_, rfl⟩
  rw [hr]
  have HR := hide hr
  clear h hr
  go_enter Tryd.func26, Tryd.ntmps26
  go_wp2_with fail
  refine (rWrap_any t ht xs A c hx w HS.out).mono ?_
  rintro e w1 ⟨rfl, hb1⟩
  rw [HR.out, wrapR]
  go_wp2_with fail
  go_ret
  exact ⟨rfl, hb1⟩

theorem encP_len (s : List UInt8) : ((encP s).getD []).length ≤ 1000 := by
  cases h : validB s with
  | true =>
    obtain ⟨c, hc, hl⟩ := encP_valid h
    rw [hc]; exact hl
  | false =>
    have : encP s = none := by
      unfold validB at h
      unfold encP
      cases ha : arcsP s with
      | none => rfl
      | some l => rw [ha] at h; cases h
    rw [this]; simp
theorem encR_eq (o : Option (List UInt8)) : encR o = .tuple #[.string ⟨(o.getD []).toArray⟩, .int .i64 (if o.isSome then 0 else 11)] := rfl

set_option maxHeartbeats 1000000 in
theorem rOID_any (s : ByteArray) (hs : s.size ≤ 1000000) (w : World) :
    Calls Tryd.prog 39 #[.string s] w fun e w' => e = .returned (.string ⟨(idW s.data.toList).toArray⟩) ∧ Below w.heap.size w w' := by
  have hl := encP_len s.data.toList
  obtain ⟨y, hy⟩ : ∃ y : ByteArray, y = ⟨((encP s.data.toList).getD []).toArray⟩ := ⟨_, rfl⟩
  have HX := hide (show wrapG 6 [y.data.toList] = (idW s.data.toList, 0) by
    rw [hy, wrapG, if_neg (by decide), wrapF]
    simp only [List.flatten_cons, List.flatten_nil, List.append_nil]
    rw [if_neg (by omega)]
    rfl)
  have hyl : y.data.toList.length ≤ 1000 := by rw [hy]; exact hl
  have hE := encR_eq (encP s.data.toList)
  rw [← hy] at hE
  obtain ⟨k, hk⟩ : ∃ k : Int, (if (encP s.data.toList).isSome then 0 else 11) = k := ⟨_, rfl⟩
  rw [hk] at hE
  have HE := hide hE
  clear hl hE hk hy
  go_enter Tryd.func39, Tryd.ntmps39
  go_wp2_with fail
  refine (rEncode_any s hs w).mono ?_
  rintro e w1 ⟨rfl, hb1⟩
  rw [HE.out]
  have HB := hide hb1
  have hsl := sl_pu (f := strC) (size := 1) (fun _ => rfl) w1 #[.string y] 9 [y.data.toList] rfl (by simp [maxLen])
  have HSL := hide hsl
  clear hsl hb1
  go_wp2_with fail
  refine (rWrap7_any 6 (by omega) [y.data.toList] _ _ (by rw [List.flatten_cons, List.flatten_nil, List.append_nil]; omega) _ HSL.out).mono ?_
  rintro e w2 ⟨rfl, hb2⟩
  rw [HX.out]
  go_wp2_with fail
  go_ret
  exact ⟨rfl, (HB.out.alloc HB.out.size _).trans (hb2.mono (by have := HB.out.size; rw [World.size_alloc]; omega))⟩
end Go.Proofs.YtbafpgdmnkkclaaDoor
