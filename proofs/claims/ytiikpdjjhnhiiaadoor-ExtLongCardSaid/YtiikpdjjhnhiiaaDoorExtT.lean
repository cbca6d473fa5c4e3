/- The law ExtLong, its walk. -/
import Derived.Test.YtiikpdjjhnhiiaaDoorExtQ
import Derived.Test.YtiikpdjjhnhiiaaDoorLib2
namespace Go.Proofs.YtiikpdjjhnhiiaaDoor
open Go.RowKit

theorem Own.litExt {e : TypeId} {w : World} {base : Nat} (hbase : base ≤ w.heap.size) (i va : ByteArray) (cr : Bool) :
    Own RExt 3 e (w.alloc (.cells #[.string i, .bool cr, .string va] e)) base No (.slice (some ⟨w.heap.size, 0, none⟩) 1 1) [(i.data.toList, cr, va.data.toList)] := by
  refine ⟨[.string i, .bool cr, .string va], ⟨rfl, .inr ⟨w.heap.size, 1, #[.string i, .bool cr, .string va], rfl, hbase, heap_alloc_new w _, Nat.le_refl _, by simp [maxLen], rfl, rfl⟩⟩, fun g _ hg => hg.elim, fun k y hy => ?_⟩
  match k, hy with
  | 0, hy =>
    simp at hy; subst hy
    exact ⟨[.string i, .bool cr, .string va], rfl, fun j u hu => by simpa using hu⟩
theorem rwrap1 (y : ByteArray) (hy : y.size ≤ 1000000) (S : ByteArray) (k : Int) (hr : wrapR (wrapG 4 [y.data.toList]) = .tuple #[.string S, .int .i64 k]) (w : World) :
    Calls Tryd.prog 20 #[.int .i64 4, .slice (some ⟨w.heap.size, 0, none⟩) 1 1] (w.alloc (.cells #[.string y] 9)) fun e w' => e = .returned (.tuple #[.string S, .int .i64 k]) ∧ Below w.heap.size w w' := by
  have hsl := sl_pu (f := strC) (size := 1) (fun _ => rfl) w #[.string y] 9 [y.data.toList] rfl (by simp [maxLen])
  have hf : [y.data.toList].flatten = y.data.toList := by simp
  refine (rWrap_any 4 (by omega) [y.data.toList] _ 1 (by rw [hf, size_string]; omega) _ hsl).mono ?_
  rintro e w' ⟨he, hb⟩
  exact ⟨by rw [he, hr], ((Below.refl _ _).alloc (Nat.le_refl _) _).trans (hb.mono (by simp))⟩


set_option maxRecDepth 100000 in
set_option maxHeartbeats 8000000 in
theorem ExtLong_any (u : Int) (hu : (Lit.int .u8 u).wf = true) (two : Bool) (w : World) (hmx : Mx w) (htb : Tb w) :
    Calls Tryd.prog 6 #[.int .u8 u, .bool two] w fun e w' => e = .returned (.bool true) ∧ Below w.heap.size w w' := by
  have HMX := hide hmx
  have HTB := hide htb
  obtain ⟨m, hm⟩ : ∃ m : Nat, u % 40 = (m : Int) := ⟨(u % 40).toNat, by omega⟩
  have hm5 : m < 40 := by omega
  have hu0 : 0 ≤ u ∧ u ≤ 255 := by simpa [Lit.wf, IntKind.min, IntKind.max, IntKind.signed, IntKind.bits] using hu
  obtain ⟨hu1, hu2⟩ := hu0
  obtain ⟨N, hN⟩ : ∃ N, N = 131042 + m := ⟨_, rfl⟩
  have hm1 : IntKind.i64.wrap ((131042 : Int) + (m : Int)) = (N : Int) := by rw [IntWalk.i64_in _ (by omega)]; omega
  have hmi : (m : Int) < 40 := by omega
  have hNb : N ≤ 131081 := by omega
  clear hmx htb hu hN
  go_enter Tryd.func6, Tryd.ntmps6
  go_wp2_with (at_make; refine wpList_make_bytes rfl (.tmp 18) (.tmp 18) 47 5 rfl Tryd.underlying47 info_u8o N rfl rfl (by omega) ?_; intro g w1 hg1 hg2 hb1 hby; have hsl := hby.sl (c := N) (by rw [List.length_replicate]; exact Nat.le_refl _) (by unfold maxLen; omega); rw [List.length_replicate] at hsl; have hk1 := run_bts_str (P := Tryd.prog) w1 47 9 5 Tryd.underlying47 Tryd.underlying5 Tryd.underlying9 _ _ _ hsl)
  obtain ⟨y, hy⟩ : ∃ y : ByteArray, y = ⟨Array.replicate N 0⟩ := ⟨_, rfl⟩
  have hys : y.size = N := by rw [hy]; exact Array.size_replicate
  rw [← hy]
  have HB1 := hide hb1
  clear hsl hby hb1 hy hk1
  have hgs := wrapG_size 4 [y.data.toList]
  obtain ⟨S, hS⟩ : ∃ S : ByteArray, S = ⟨(wrapG 4 [y.data.toList]).1.toArray⟩ := ⟨_, rfl⟩
  have hSs : S.size ≤ 131077 := by rw [hS, ba_mk]; exact hgs
  obtain ⟨k, hk⟩ : ∃ k, (wrapG 4 [y.data.toList]).2 = k := ⟨_, rfl⟩
  have HWG := hide (show wrapR (wrapG 4 [y.data.toList]) = .tuple #[.string S, .int .i64 k] by rw [wrapR, hS, hk])
  clear hgs hS hk
  refine (rwrap1 y (by omega) S k HWG.out _).mono ?_
  rintro e w2 ⟨rfl, hb2⟩
  have HB2 := hide (HB1.out.trans (hb2.mono HB1.out.size))
  have hz2 := HB2.out.size
  clear hb2
  by_cases hk0 : k = 0
  · subst hk0
    obtain ⟨I, hI⟩ : ∃ I : ByteArray, I = ⟨#[49, 46, 50, 46, 51]⟩ := ⟨_, rfl⟩
    have hIs : I.size = 5 := by rw [hI]; rfl
    go_upto_region 6 with fail
    rw [← hI]
    have hsl := sl_pu (f := extC) (size := 3) (fun _ => rfl) w2 #[.string I, .bool false, .string S] 49 [(I.data.toList, false, S.data.toList)] rfl (by simp [maxLen])
    have hown := Own.litExt (e := 49) (base := w.heap.size) (w := w2) hz2 I S false
    obtain ⟨w3, hw3⟩ : ∃ W, W = w2.alloc (.cells #[.string I, .bool false, .string S] 49) := ⟨_, rfl⟩
    have hb3 : Below w.heap.size w w3 := by rw [hw3]; exact HB2.out.alloc hz2 _
    rw [← hw3] at hsl hown ⊢
    obtain ⟨g3, hg3⟩ : ∃ g, g = w2.heap.size := ⟨_, rfl⟩
    rw [← hg3] at hsl hown ⊢
    have HSL := hide hsl
    have HOWN := hide hown
    have HB3 := hide hb3
    have hz3 := hb3.size
    have hIl : I.data.toList.length = 5 := by rw [size_string]; exact hIs
    have hSl : S.data.toList.length ≤ 131077 := by rw [size_string]; exact hSs
    have HSM := hide (show SmallX [(I.data.toList, false, S.data.toList)] from fun x hx => by simp at hx; subst hx; exact ⟨by show I.data.toList.length ≤ _; omega, by show S.data.toList.length ≤ _; omega⟩)
    have HSN := hide (show SmallX ([(I.data.toList, false, S.data.toList)] ++ [(([49, 46, 50, 46, 52] : List UInt8), false, ([5, 0] : List UInt8))]) from fun x hx => by
      simp at hx
      rcases hx with hx | hx
      · subst hx; exact ⟨by show I.data.toList.length ≤ _; omega, by show S.data.toList.length ≤ _; omega⟩
      · subst hx; exact ⟨by decide, by decide⟩)
    clear hsl hown hb3 hw3 hg3 hI
    cases two with
    | false =>
      go_wp2_with fail
      refine (EEncode_any [(I.data.toList, false, S.data.toList)] _ 1 _ (HMX.out.below HB3.out) HSL.out HSM.out).mono ?_
      rintro e w5 ⟨rfl, hb5⟩
      have HB5 := hide (Below.trans HB3.out (hb5.mono (Below.size HB3.out)))
      have HSL5 := hide ((Sl.ok RExt.ok).mono HSL.out (fun j hj => hb5.block j hj) (S' := Lt w5.heap.size) (fun j hj => Nat.lt_of_lt_of_le hj hb5.size))
      clear hb5
      obtain ⟨Z, hZ⟩ : ∃ Z0 : ByteArray, Z0 = ⟨(encE [(I.data.toList, false, S.data.toList)]).1.toArray⟩ := ⟨_, rfl⟩
      obtain ⟨q, hq⟩ : ∃ q, (encE [(I.data.toList, false, S.data.toList)]).2 = q := ⟨_, rfl⟩
      have HW := hide (show wrapR (encE [(I.data.toList, false, S.data.toList)]) = .tuple #[.string Z, .int .i64 q] by rw [wrapR, hZ, hq])
      rw [HW.out]
      clear hZ hq
      go_wp2_with fail
      refine (rEEncode_any [(I.data.toList, false, S.data.toList)] _ 1 _ HSL5.out HSM.out).mono ?_
      rintro e w6 ⟨rfl, hb6⟩
      rw [HW.out]
      have HB6 := hide (HB5.out.trans (hb6.mono HB5.out.size))
      clear hb6
      have t2 : (q == q) = true := by simp
      go_wp2_with fail
      refine (xawake_any _ (HMX.out.below HB6.out) (HTB.out.below HB6.out)).mono ?_
      rintro e w9 ⟨rfl, hb9⟩
      have HB9 := hide (Below.trans HB6.out (hb9.mono (Below.size HB6.out)))
      clear hb9
      go_wp2_with fail
      go_ret
      exact ⟨rfl, HB9.out⟩
    | true =>
      clear hIl hSl
      go_wp2_with (at_builtin; go_loud (refine wpList_app RExt.ok _ rfl (.tmp 32) (.tmp 34) 50 rfl w.heap.size 49 (.agg #[.string ⟨#[]⟩, .bool false, .string ⟨#[]⟩]) 40 Tryd.underlying50 info_ext rfl (by decide) No _ [(I.data.toList, false, S.data.toList)] rfl (HOWN.out.alloc RExt.ok (no_lt _) _) ⟨_, 0, none⟩ 1 1 [(([49, 46, 50, 46, 52] : List UInt8), false, ([5, 0] : List UInt8))] rfl rfl (news_ext _ _ _ false (⟨#[49, 46, 50, 46, 52]⟩ : ByteArray) (⟨#[5, 0]⟩ : ByteArray)) (no_lt _) (by simp) (by simp [maxLen]) (by simp; omega) ?_; intro v2 w4 hown2 hg2 hb2 hat2; have hsl2 := (Sl.ok RExt.ok).mono (hown2.sl RExt.ok) (S' := Lt w4.heap.size) (fun _ _ => rfl) (fun j hj => by rcases hj with hj | hj; exact hj.elim; exact hj.2); have HB4 := hide ((HB3.out.alloc hz3 _).trans hb2); obtain ⟨A2, cp2, hv⟩ := hsl2.shape; subst hv; have HSL2 := hide hsl2; clear hown2 hg2 hb2 hat2 hsl2))
      refine (EEncode_any ([(I.data.toList, false, S.data.toList)] ++ [(([49, 46, 50, 46, 52] : List UInt8), false, ([5, 0] : List UInt8))]) A2 cp2 _ (HMX.out.below HB4.out) HSL2.out HSN.out).mono ?_
      rintro e w5 ⟨rfl, hb5⟩
      have HB5 := hide (Below.trans HB4.out (hb5.mono (Below.size HB4.out)))
      have HSL5 := hide ((Sl.ok RExt.ok).mono HSL2.out (fun j hj => hb5.block j hj) (S' := Lt w5.heap.size) (fun j hj => Nat.lt_of_lt_of_le hj hb5.size))
      clear hb5
      obtain ⟨Z, hZ⟩ : ∃ Z0 : ByteArray, Z0 = ⟨(encE ([(I.data.toList, false, S.data.toList)] ++ [(([49, 46, 50, 46, 52] : List UInt8), false, ([5, 0] : List UInt8))])).1.toArray⟩ := ⟨_, rfl⟩
      obtain ⟨q, hq⟩ : ∃ q, (encE ([(I.data.toList, false, S.data.toList)] ++ [(([49, 46, 50, 46, 52] : List UInt8), false, ([5, 0] : List UInt8))])).2 = q := ⟨_, rfl⟩
      have HW := hide (show wrapR (encE ([(I.data.toList, false, S.data.toList)] ++ [(([49, 46, 50, 46, 52] : List UInt8), false, ([5, 0] : List UInt8))])) = .tuple #[.string Z, .int .i64 q] by rw [wrapR, hZ, hq])
      rw [HW.out]
      clear hZ hq
      go_wp2_with fail
      refine (rEEncode_any ([(I.data.toList, false, S.data.toList)] ++ [(([49, 46, 50, 46, 52] : List UInt8), false, ([5, 0] : List UInt8))]) A2 cp2 _ HSL5.out HSN.out).mono ?_
      rintro e w6 ⟨rfl, hb6⟩
      rw [HW.out]
      have HB6 := hide (HB5.out.trans (hb6.mono HB5.out.size))
      clear hb6
      have t2 : (q == q) = true := by simp
      go_wp2_with fail
      refine (xawake_any _ (HMX.out.below HB6.out) (HTB.out.below HB6.out)).mono ?_
      rintro e w9 ⟨rfl, hb9⟩
      have HB9 := hide (Below.trans HB6.out (hb9.mono (Below.size HB6.out)))
      clear hb9
      go_wp2_with fail
      go_ret
      exact ⟨rfl, HB9.out⟩
  · have t9 : (k != 0) = true := by simp [hk0]
    go_wp2_with fail
    refine (xawake_any _ (HMX.out.below HB2.out) (HTB.out.below HB2.out)).mono ?_
    rintro e w9 ⟨rfl, hb9⟩
    have HB9 := hide (Below.trans HB2.out (hb9.mono (Below.size HB2.out)))
    clear hb9
    go_wp2_with fail
    go_ret
    exact ⟨rfl, HB9.out⟩
end Go.Proofs.YtiikpdjjhnhiiaaDoor
