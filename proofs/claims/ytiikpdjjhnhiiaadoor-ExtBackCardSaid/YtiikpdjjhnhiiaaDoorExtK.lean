/- The reference's flag and extension. -/
import Derived.Test.YtiikpdjjhnhiiaaDoorExtJ
import Derived.Test.YtiikpdjjhnhiiaaDoorTlv3
import Derived.Test.YtiikpdjjhnhiiaaDoorOidT
namespace Go.Proofs.YtiikpdjjhnhiiaaDoor
open Go.RowKit

def flagRes (g : Nat) : Except Int (Bool × List Elt) → World → Ending → World → Prop
  | .error k, _, e, _ => e = .returned (.tuple #[.bool false, .int .i64 k])
  | .ok (c, r), _, e, w' => e = .returned (.tuple #[.bool c, .int .i64 0]) ∧ FAt w' g r
def FlagPost (g : Nat) (o : Except Int (Bool × List Elt)) (w : World) (e : Ending) (w' : World) : Prop := Ex g w w' ∧ flagRes g o w e w'
theorem mayF_boolF_no {l : List Elt} (h : (mayF l 1).1 = none) : boolF l = .ok (false, l) ∧ (mayF l 1).2 = l := by
  match l, h with
  | [], _ => exact ⟨rfl, rfl⟩
  | a :: r, h =>
    rw [mayF] at h ⊢
    by_cases h1 : (a.1 : Int) = 1
    · rw [if_pos h1] at h; cases h
    · rw [if_neg h1]
      exact ⟨by rw [boolF, if_neg (by omega)], rfl⟩
theorem mayF_boolF_yes {l : List Elt} {a : Elt} (h : (mayF l 1).1 = some a) : boolF l = if a.2.1 = [255] then Except.ok (true, (mayF l 1).2) else Except.error 7 := by
  match l, h with
  | [], h => cases h
  | b :: r, h =>
    rw [mayF] at h ⊢
    by_cases h1 : (b.1 : Int) = 1
    · rw [if_pos h1] at h ⊢
      cases h
      rw [boolF, if_pos (by omega)]
    · rw [if_neg h1] at h; cases h

set_option maxRecDepth 100000 in
set_option maxHeartbeats 4000000 in
theorem flag_any (g : Nat) (rest : List Elt) (w : World) (h : FAt w g rest) :
    Calls Tryd.prog 91 #[.pointer (some ⟨g, 0, none⟩), .int .i64 1] w (FlagPost g (boolF rest) w) := by
  obtain ⟨o, ho⟩ : ∃ o, boolF rest = o := ⟨_, rfl⟩
  rw [ho]
  have HO := hide ho
  have HF := hide h
  obtain ⟨p, hp⟩ : ∃ p, mayF rest 1 = p := ⟨_, rfl⟩
  have HP := hide hp
  clear h ho hp
  go_enter Tryd.func91, Tryd.ntmps91
  go_wp2_with fail
  refine (May_any g rest 1 w HF.out).mono ?_
  rintro e w1 ⟨rfl, hf1, hx1⟩
  rw [HP.out] at hf1 ⊢
  have HF1 := hide hf1
  have HX1 := hide hx1
  obtain ⟨m, r⟩ := p
  clear hf1 hx1
  cases m with
  | none =>
    have hb := mayF_boolF_no (l := rest) (by rw [HP.out])
    have HN := hide (show o = .ok (false, r) by rw [← HO.out, hb.1, ← hb.2, HP.out])
    have hbA : Below w1.heap.size w1 (w1.alloc (.cells #[.int .i64 0, .string ⟨#[]⟩, .string ⟨#[]⟩] 38)) := (Below.refl _ _).alloc (Nat.le_refl _) _
    have HBA := hide hbA
    rw [show mayR none = .tuple #[.agg #[.int .i64 0, .string ⟨#[]⟩, .string ⟨#[]⟩], .bool false] from rfl]
    clear hb hbA
    go_wp2_with fail
    go_ret2
    refine ⟨HX1.out.then_ HBA.out, ?_⟩
    rw [HN.out]
    exact ⟨rfl, HF1.out.below HBA.out⟩
  | some a =>
    obtain ⟨at_, ac, ar⟩ := a
    have hb := mayF_boolF_yes (l := rest) (a := (at_, ac, ar)) (by rw [HP.out])
    rw [HP.out] at hb
    simp only at hb
    obtain ⟨x1, hx1⟩ : ∃ x : ByteArray, x = ⟨ac.toArray⟩ := ⟨_, rfl⟩
    obtain ⟨x2, hx2⟩ : ∃ x : ByteArray, x = ⟨ar.toArray⟩ := ⟨_, rfl⟩
    have hx1d : ac = x1.data.toList := by rw [hx1]
    rw [show mayR (some (at_, ac, ar)) = .tuple #[.agg #[.int .i64 (at_ : Int), .string x1, .string x2], .bool true] by rw [mayR, eltV, hx1, hx2]]
    have HN := hide (show o = if x1.data.toList = [255] then Except.ok (true, r) else Except.error 7 by rw [← HO.out, hb, hx1d])
    clear hb hx1 hx2 hx1d
    go_upto_region 2 with fail
    obtain ⟨wA, hwA⟩ : ∃ W, W = w1.alloc (.cells #[.int .i64 (at_ : Int), .string x1, .string x2] 38) := ⟨_, rfl⟩
    have n1 : wA.cell? ⟨w1.heap.size, 1, none⟩ = some (.string x1) := by rw [hwA, World.cell?_alloc_new]; rfl
    have hbA : Below w1.heap.size w1 wA := by rw [hwA]; exact (Below.refl _ _).alloc (Nat.le_refl _) _
    have HBA := hide hbA
    rw [← hwA]
    clear hwA hbA
    go_wp2_with fail
    refine (rBoolean_any x1 _).mono ?_
    rintro e w2 ⟨rfl, rfl⟩
    by_cases h255 : x1.data.toList = [255]
    · have HN2 := hide (HN.out.trans (if_pos h255))
      rw [boolR, if_neg (by rw [h255]; decide), if_pos h255]
      clear h255 n1
      go_wp2_with fail
      go_ret2
      refine ⟨HX1.out.then_ HBA.out, ?_⟩
      rw [HN2.out]
      exact ⟨rfl, HF1.out.below HBA.out⟩
    · have HN2 := hide (HN.out.trans (if_neg h255))
      by_cases h00 : x1.data.toList = [0]
      · rw [boolR, if_pos h00]
        clear h255 n1 h00
        go_wp2_with fail
        go_ret2
        exact ⟨HX1.out.then_ HBA.out, by rw [HN2.out]; rfl⟩
      · rw [boolR, if_neg h00, if_neg h255]
        clear h255 n1 h00
        go_wp2_with fail
        go_ret2
        exact ⟨HX1.out.then_ HBA.out, by rw [HN2.out]; rfl⟩

/-- the state of 'extension': its result's block, a zero one, the decoder -/
structure RSt (w : World) (g : Nat) (rest : List Elt) (W : World) : Prop where
  below : Below w.heap.size w W
  r : ResX (w.heap.size + 1) W
  n : ResX (w.heap.size + 2) W
  f : FAt W g rest
  hg : w.heap.size + 3 ≤ g
theorem RSt.grow {w : World} {g : Nat} {rest : List Elt} {W W' : World} (h : RSt w g rest W) (hb : Below W.heap.size W W') : RSt w g rest W' :=
  ⟨h.below.trans (hb.mono h.below.size), h.r.below hb, h.n.below hb, h.f.below hb, h.hg⟩
theorem ResX.ex {g d : Nat} {W W' : World} (h : ResX d W) (hx : Ex g W W') (hne : d ≠ g) : ResX d W' := (hx.block d h.lt (fun e => hne (Option.some.inj e))).trans h
theorem RSt.step {w : World} {g : Nat} {rest rest' : List Elt} {W W' : World} (h : RSt w g rest W) (hx : Ex g W W') (hf : FAt W' g rest') : RSt w g rest' W' :=
  ⟨Ex.below h.below h.below.size (by have := h.hg; omega) hx, h.r.ex hx (by have := h.hg; omega), h.n.ex hx (by have := h.hg; omega), hf, h.hg⟩
theorem three_new (w : World) (a b c : Value) : ∃ W, W = ((w.alloc (.cells #[a, b, c] 38)).alloc (.cells #[.string ⟨#[]⟩, .bool false, .string ⟨#[]⟩] 49)).alloc (.cells #[.string ⟨#[]⟩, .bool false, .string ⟨#[]⟩] 49) ∧
    Below w.heap.size w W ∧ ResX (w.heap.size + 1) W ∧ ResX (w.heap.size + 2) W ∧ W.heap.size = w.heap.size + 3 ∧ W.cell? ⟨w.heap.size, 0, none⟩ = some a ∧ W.cell? ⟨w.heap.size, 1, none⟩ = some b ∧ W.cell? ⟨w.heap.size, 2, none⟩ = some c := by
  have z1 : (w.alloc (.cells #[a, b, c] 38)).heap.size = w.heap.size + 1 := by simp
  have z2 : ((w.alloc (.cells #[a, b, c] 38)).alloc (.cells #[.string ⟨#[]⟩, .bool false, .string ⟨#[]⟩] 49)).heap.size = w.heap.size + 2 := by simp
  have h0 : (w.alloc (.cells #[a, b, c] 38)).heap[w.heap.size]? = some (.cells #[a, b, c] 38 (0, 0)) := heap_alloc_new w _
  have h1 := resX_new (w.alloc (.cells #[a, b, c] 38))
  have h2 := resX_new ((w.alloc (.cells #[a, b, c] 38)).alloc (.cells #[.string ⟨#[]⟩, .bool false, .string ⟨#[]⟩] 49))
  rw [z1] at h1
  rw [z2] at h2
  have k1 := fun (W : World) (ob : Obj) => (Below.refl W.heap.size W).alloc (Nat.le_refl _) ob
  have h0' := (Below.heap_alloc ((w.alloc (.cells #[a, b, c] 38)).alloc (.cells #[.string ⟨#[]⟩, .bool false, .string ⟨#[]⟩] 49)) (.cells #[.string ⟨#[]⟩, .bool false, .string ⟨#[]⟩] 49) w.heap.size (by omega)).trans ((Below.heap_alloc _ (.cells #[.string ⟨#[]⟩, .bool false, .string ⟨#[]⟩] 49) w.heap.size (by omega)).trans h0)
  refine ⟨_, rfl, ?_, ?_, h2, by simp, by simp [World.cell?, h0'], by simp [World.cell?, h0'], by simp [World.cell?, h0']⟩
  · exact (((Below.refl _ _).alloc (Nat.le_refl _) _).alloc (by omega) _).alloc (by omega) _
  · exact h1.below (k1 _ _)

theorem needF_err0 {l : List Elt} {t : Int} : (needF l t).1 ≠ .error 0 := by
  match l with
  | [] => simp [needF]
  | a :: r => rw [needF]; split <;> simp
end Go.Proofs.YtiikpdjjhnhiiaaDoor
